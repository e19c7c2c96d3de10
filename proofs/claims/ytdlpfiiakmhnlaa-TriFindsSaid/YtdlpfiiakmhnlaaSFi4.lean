/- The statement TriFindsSaid: for every input the law returns true, and its arguments read as before. Conditions: none. -/
import Derived.Test.YtdlpfiiakmhnlaaSFi3
import Derived.KernelRfl
import Derived.StillTail
import Derived.OrdersHeld
import Derived.Deep.Quiet
import Derived.Below
import Derived.WalkKit
import Derived.Test.YtdlpfiiakmhnlaaProg
import Derived.WalkSpells
import Derived.StillTactics
import Derived.Laws.Pointers
import Derived.Deep.RegionHeld3
import Derived.RowKit3
import Derived.Deep.QuietTactic
import Derived.BigQuiet
import Derived.BigRegion
import Derived.Lib.Hide
import Derived.WalkSmall
import Derived.Laws.BitsAllLaws
import Derived.IntWalk
import Derived.Deep.OwnRows
import Derived.Deep.LoopGhost
import Derived.Shelf.Bits.Mul64
import Derived.Test.YtdlpfiiakmhnlaaRows
import Derived.ProofKit
import Derived.OpenShut
import Derived.ShutString
import Derived.ChangeOld
import Derived.Lib.SmallJoins
import Derived.Laws.IdiomArrays
import Derived.Laws.CopyOwn
import Derived.Laws.AppendOwn
import Derived.Deep.DeepAppendRoom
import Derived.Lib.AppendZerosOnto
import Derived.Lib.Overlaps
import Derived.Deep.RegionLaw
import Derived.Shelf.RegionOpenPlain
import Derived.Deep.RegionWith
import Derived.Sort.LoopGhostIn
import Derived.RangeFuncNested
import Derived.RangeFuncBound
import Derived.RangeFuncCalls
import Derived.RangeFuncLeaves
import Derived.OwnWalk
import Derived.OwnWalkIn
import Derived.TacticsInMore
import Derived.LoopNIn
import Derived.LoopIn
import Derived.Deep.DeepFit
import Derived.Deep.DeepCutAuto
import Derived.Shelf.Abstract
import Derived.Shelf.RegionOpen
import Derived.Maps.OwnIn
import Derived.WalkMore
import Derived.Deep.SlicePairs
namespace Go.Proofs.Ytdlpfiiakmhnlaa
open Go.RowKit Go.Shelf
attribute [local go_sem] Oper.semAt_some

theorem yield_deep {m m' l l0 : Nat} {P : Program} {args : Array Value} {W : World} {R : Ending → World → Prop} (h : YieldAt Fence.wide m P l args W R) : YieldAt (Fence.wide.inRound l0) m' P l args W R := by
  obtain ⟨fn, tmps, assign, body, hy, hR⟩ := h
  exact ⟨fn, tmps, assign, body, hy, hR.1, fun c cs _ => hR.2 c cs (fun d h => by cases h)⟩
theorem Blk.outl {L : List Nat} {W w : World} {b : Nat} {c : Array Value} {t : TypeId} (h : Blk W b c t) (ho : OutL L W w) (hb : b ∉ L) : Blk w b c t := (ho.block b h.lt hb).trans h
/-- what is told of a row -/
def told (a : Nat) (L : List (Nat × Nat)) : List Tri3 := (L.filter fun x => decide (a < x.1) && decide (a < x.2)).map fun x => (a, x.1, x.2)
def preO (O : Nat → List (Nat × Nat)) : Nat → List Tri3
  | 0 => []
  | a + 1 => preO O a ++ told a (O a)
def posO (O : Nat → List (Nat × Nat)) (a j : Nat) : Nat := (preO O a).length + (told a ((O a).take j)).length
theorem preO_le (O : Nat → List (Nat × Nat)) (a : Nat) : ∀ N, a ≤ N → ∃ r, preO O N = preO O a ++ r := by
  intro N
  induction N with
  | zero => intro h; obtain rfl : a = 0 := by omega
            exact ⟨[], rfl⟩
  | succ N ih =>
    intro h
    rcases Nat.lt_or_ge a (N + 1) with h1 | h1
    · obtain ⟨r, hr⟩ := ih (by omega)
      exact ⟨r ++ told N (O N), by show preO O N ++ _ = _; rw [hr, List.append_assoc]⟩
    · obtain rfl : a = N + 1 := by omega
      exact ⟨[], by rw [List.append_nil]⟩
theorem told_app (a : Nat) (l m : List (Nat × Nat)) : told a (l ++ m) = told a l ++ told a m := by unfold told; rw [List.filter_append, List.map_append]
theorem take_succ' {L : List (Nat × Nat)} {j : Nat} {x : Nat × Nat} (h : L[j]? = some x) : L.take (j + 1) = L.take j ++ [x] := by
  rw [List.take_add_one, h]; rfl
theorem posO_no {O : Nat → List (Nat × Nat)} {a j : Nat} {x : Nat × Nat} (h : (O a)[j]? = some x) (hn : ¬ (a < x.1 ∧ a < x.2)) : posO O a (j + 1) = posO O a j := by
  have : told a [x] = [] := by
    unfold told
    rw [List.filter_cons, if_neg (by simpa using hn)]; rfl
  unfold posO
  rw [take_succ' h, told_app, this, List.append_nil]
theorem posO_yes {O : Nat → List (Nat × Nat)} {N a j : Nat} {x : Nat × Nat} (ha : a < N) (h : (O a)[j]? = some x) (hn : a < x.1 ∧ a < x.2) : posO O a (j + 1) = posO O a j + 1 ∧ (preO O N)[posO O a j]? = some (a, x.1, x.2) := by
  have h1 : told a [x] = [(a, x.1, x.2)] := by
    unfold told
    rw [List.filter_cons, if_pos (by simpa using hn)]; rfl
  constructor
  · unfold posO
    rw [take_succ' h, told_app, h1, List.length_append]; rfl
  · obtain ⟨r, hr⟩ := preO_le O (a + 1) N ha
    have hj : j < (O a).length := (List.getElem?_eq_some_iff.1 h).1
    have h2 : O a = (O a).take j ++ x :: (O a).drop (j + 1) := by
      conv => lhs; rw [← List.take_append_drop j (O a)]
      rw [List.drop_eq_getElem_cons hj, (List.getElem?_eq_some_iff.1 h).2]
    have h3 : told a (O a) = told a ((O a).take j) ++ ((a, x.1, x.2) :: told a ((O a).drop (j + 1))) := by
      conv => lhs; rw [h2]
      rw [told_app, show x :: (O a).drop (j + 1) = [x] ++ (O a).drop (j + 1) from rfl, told_app, h1]; rfl
    rw [hr]
    show ((preO O a ++ told a (O a)) ++ r)[(preO O a).length + (told a ((O a).take j)).length]? = _
    rw [h3, List.append_assoc, List.append_assoc, List.getElem?_append_right (by omega), Nat.add_sub_cancel_left, List.getElem?_append_right (by omega), Nat.sub_self]; rfl
theorem posO_0 (O : Nat → List (Nat × Nat)) (a : Nat) : posO O a 0 = (preO O a).length := by unfold posO; rfl
theorem posO_all (O : Nat → List (Nat × Nat)) (a : Nat) : posO O a (O a).length = (preO O (a + 1)).length := by
  unfold posO
  rw [List.take_length]
  show _ = (preO O a ++ told a (O a)).length
  rw [List.length_append]
theorem posO_lt {O : Nat → List (Nat × Nat)} {N a j : Nat} {x : Nat × Nat} (ha : a < N) (h : (O a)[j]? = some x) (hn : a < x.1 ∧ a < x.2) : posO O a j < (preO O N).length := (List.getElem?_eq_some_iff.1 (posO_yes ha h hn).2).1
def allE (l : List Tri3) (k : Nat) : Array Value := #[tI (l.getD k (0, 0, 0)).1 (l.getD k (0, 0, 0)).2.1 (l.getD k (0, 0, 0)).2.2]
theorem All_is (t : Nat) (w : World) :
    Calls Try.prog 27 #[ptr t 0] w fun e w' => e = .returned (.func (.func 63) #[] #[ptr w.heap.size 0]) ∧ Blk w' w.heap.size #[ptr t 0] 25 ∧ Below w.heap.size w w' := by
  go_enter Try.func27, Try.ntmps27
  go_wp2
  go_ret
  exact ⟨rfl, Blk.new _ _ _, below_a1 _ _⟩
/-- the marks that ranges over functions leave in a frame -/
def Marks (y : Nat) (w : World) : List Deferred → Prop
  | [] => True
  | d :: ds => (∃ r, d = { target := .collected r, args := #[] } ∧ y < r ∧ w.heap[r]? = some (.deferred (some [])) ∧ ∀ d', d' ∈ ds → ∀ r', d'.target = .collected r' → r' < r) ∧ Marks y w ds
theorem Marks.keep {y : Nat} {w w' : World} : ∀ {ds : List Deferred}, Marks y w ds → (∀ r, y < r → r < w.heap.size → w'.heap[r]? = w.heap[r]?) → Marks y w' ds := by
  intro ds
  induction ds with
  | nil => intro _ _; trivial
  | cons d ds ih =>
    rintro ⟨⟨r, h1, h2, h3, h4⟩, h5⟩ hk
    exact ⟨⟨r, h1, h2, (hk r h2 (Array.getElem?_eq_some_iff.1 h3).1).trans h3, h4⟩, ih h5 hk⟩
theorem Marks.lt {y : Nat} {w : World} : ∀ {ds : List Deferred}, Marks y w ds → ∀ d, d ∈ ds → ∀ r, d.target = .collected r → r < w.heap.size := by
  intro ds
  induction ds with
  | nil => intro _ d hd; cases hd
  | cons d ds ih =>
    rintro ⟨⟨r, h1, h2, h3, h4⟩, h5⟩ d' hd' r' hr'
    rcases List.mem_cons.1 hd' with rfl | hd'
    · rw [h1] at hr'
      injection hr' with hr'
      rw [← hr']; exact (Array.getElem?_eq_some_iff.1 h3).1
    · exact ih h5 d' hd' r' hr'
theorem Marks.putOld {y : Nat} {w : World} {D : Nat} {o : Obj} : ∀ {ds : List Deferred}, Marks y w ds → (∀ d, d ∈ ds → ∀ r, d.target = .collected r → r < D) → Marks y (w.putObj D o) ds := by
  intro ds
  induction ds with
  | nil => intro _ _; trivial
  | cons d ds ih =>
    rintro ⟨⟨r, h1, h2, h3, h4⟩, h5⟩ hD
    have := hD d (List.mem_cons_self ..) r (by rw [h1])
    exact ⟨⟨r, h1, h2, (World.putObj_heap_other (by omega)).trans h3, h4⟩, ih h5 fun d' hd' => hD d' (List.mem_cons_of_mem _ hd')⟩
theorem Marks.putB {y : Nat} {w w' : World} {M : Nat} : ∀ {ds : List Deferred}, Marks y w ds → Below M w w' → (∀ d, d ∈ ds → ∀ r, d.target = .collected r → r < M) → Marks y w' ds := by
  intro ds
  induction ds with
  | nil => intro _ _ _; trivial
  | cons d ds ih =>
    rintro ⟨⟨r, h1, h2, h3, h4⟩, h5⟩ hb hD
    have := hD d (List.mem_cons_self ..) r (by rw [h1])
    exact ⟨⟨r, h1, h2, (hb.block r this).trans h3, h4⟩, ih h5 hb fun d' hd' => hD d' (List.mem_cons_of_mem _ hd')⟩
theorem Marks.keepD {y : Nat} {w w' : World} : ∀ {ds : List Deferred}, Marks y w ds → (∀ d, d ∈ ds → ∀ r, d.target = .collected r → y < r → r < w.heap.size → w'.heap[r]? = w.heap[r]?) → Marks y w' ds := by
  intro ds
  induction ds with
  | nil => intro _ _; trivial
  | cons d ds ih =>
    rintro ⟨⟨r, h1, h2, h3, h4⟩, h5⟩ hk
    exact ⟨⟨r, h1, h2, (hk d (List.mem_cons_self ..) r (by rw [h1]) h2 (Array.getElem?_eq_some_iff.1 h3).1).trans h3, h4⟩, ih h5 fun d' hd' => hk d' (List.mem_cons_of_mem _ hd')⟩
theorem leaves_marks {F : Fence} {n : Nat} {P : Program} {fn : Func} {tmps : Array Value} {R : Ending → World → Prop} {y B : Nat} (hB : B ≤ y) (G : Nat → Prop) : ∀ (ds : List Deferred) (w : World), B ≤ w.heap.size → Marks y w ds → (∀ d, d ∈ ds → ∀ r, d.target = .collected r → ¬ G r) → (∀ w', BelowX B G w w' → LeavesInM F n P fn tmps R [] .returning w') → LeavesInM F n P fn tmps R ds .returning w := by
  intro ds
  induction ds with
  | nil => intro w hw _ _ h; exact h w ⟨⟨rfl, rfl, rfl, Nat.le_refl _, fun _ _ => rfl⟩, fun _ _ _ => rfl⟩
  | cons d ds ih =>
    rintro w hw ⟨⟨r, h1, h2, h3, h4⟩, h5⟩ hn h
    refine ⟨by simp, .inl ⟨r, _, by rw [h1], run_takeDeferred h3, ?_⟩⟩
    have hb : Below B w (w.putObj r (.deferred none)) := (putObj_out w r _).below hw (by simp; omega)
    have hx : BelowX B G w (w.putObj r (.deferred none)) := ⟨hb, fun g hg _ => World.putObj_heap_other fun e => hn d (List.mem_cons_self ..) r (by rw [h1]) (by rw [← e]; exact hg)⟩
    exact ih _ (Nat.le_trans hw hb.size) (h5.putOld h4) (fun d' hd' => hn d' (List.mem_cons_of_mem _ hd')) fun w' hw' => h w' (hx.trans hw')
set_option maxRecDepth 100000 in
set_option maxHeartbeats 2000000 in
theorem All1_any (m lid bs t B : Nat) (D : SD) (N : Nat) (X Y : Nat → Int) (O : Nat → List (Nat × Nat)) (n : Int) (L : List Tri3) (hL : preO O N = L) (I : (Nat → Prop) → Nat → World → Prop) (Ix : Nat → World → Prop)
    (hm : ∀ G k W, I G k W → Blk W bs #[ptr t 0] 25 ∧ SM W t D N X Y O n) (hG : ∀ G k W, I G k W → ∀ g, G g → B ≤ g ∧ g < W.heap.size) (hst : ∀ G k W W', I G k W → BelowX B G W W' → I G k W') (hxst : ∀ k W W', Ix k W → Below B W W' → Ix k W')
    (hY : ∀ G k W, k < L.length → I G k W → YieldAt Fence.wide m Try.prog lid (allE L k) W fun e W' => ((e = .returned (.bool true) ∧ ∃ G', (∀ g, G' g → G g ∨ W.heap.size ≤ g) ∧ I G' (k + 1) W') ∨ (e = .returned (.bool false) ∧ Ix (k + 1) W')) ∧ AboveX B G W W')
    (W : World) (hB : B ≤ W.heap.size) (h0 : I (fun _ => False) 0 W) :
    CallsIn Fence.wide (m + 1) Try.prog 63 #[.func (.yield lid) #[] #[], ptr bs 0] W fun e W' => (∃ v, e = .returned v) ∧ ((∃ G, I G L.length W') ∨ ∃ k, k ≤ L.length ∧ Ix k W') := by
  refine callsIn_wide.2 ((callsIn_wide (n := 3)).1 ?_)
  refine callsIn_of_wp_marks Try.func63 rfl trivial ?_ rfl
  simp only [Try.ntmps63, List.size_toArray, List.length_cons, List.length_nil, Nat.reduceAdd, Nat.reduceSub, Array.replicate_succ, Array.replicate_zero, List.push_toArray, List.append_toArray, List.nil_append, List.cons_append]
  obtain ⟨ks, hM⟩ := hm _ 0 W h0
  have lb := ks.lt
  have lt := hM.blk.lt
  have b0 := ks.cell 0
  simp only [List.getElem?_toArray, List.getElem?_cons_zero] at b0
  obtain ⟨c0, _, _⟩ := hM.c
  have hsm := hM.small
  have hcl := hM.pts.capl
  have hcb := hM.pts.capb
  have H0 := Lib.hid h0
  have HL := Lib.hid hL
  have HH := Lib.hid (And.intro hm (And.intro hst (And.intro hxst (And.intro hY hG))))
  have hbs : bs ≠ W.heap.size := by omega
  have htn : t ≠ W.heap.size := by omega
  clear hm hG hst hxst hY h0 hL ks hM
  gi_wp2_with fail
  refine nameIn ?_
  intro V hV
  have hbV : Below W.heap.size W V := by rw [hV]; exact below_a1 _ _
  have KY : Hid (Blk V W.heap.size #[.func (.yield lid) #[] #[]] 117) := by rw [hV]; exact Lib.hid (Blk.new _ _ _)
  have H1 : Hid (I (fun _ => False) (posO O 0 0) V) := Lib.hid (HH.out.2.1 _ 0 W V H0.out (.all hbV hB))
  obtain ⟨y, hy⟩ : ∃ y, W.heap.size = y := ⟨_, rfl⟩
  have hyV : y < V.heap.size := by rw [← hy]; exact KY.out.lt
  rw [hy] at KY hB lb lt hbs htn ⊢
  clear hV hbV hy H0 b0 c0 hcl hcb
  refine wpIn_loop_ghost_k (fun gk act wr => ∃ (u3 u4 u5 u12 u13 u14 u15 u16 u17 u18 u19 u20 u21 u22 u23 u24 u25 u26 u27 u28 u29 u30 u31 u32 u33 u34 u35 u36 : Value) (ds : List Deferred) (a : Nat) (G0 : Nat → Prop), (a ≤ N ∧ N - a ≤ gk ∧ Hid (I G0 (posO O a 0) wr ∧ ¬ G0 y ∧ ∀ d, d ∈ ds → ∀ r, d.target = .collected r → ¬ G0 r) ∧ Hid (Blk wr y #[.func (.yield lid) #[] #[]] 117) ∧ y < wr.heap.size ∧ Hid (Marks y wr ds)) ∧ act = { tmps := #[.func (.yield lid) #[] #[], ptr bs 0, ptr y 0, u3, u4, u5, ptr t 0, ptr t 0, .pointer (some ⟨t, 0, none⟩), .slice D.po N D.pc, .int .i64 (N : Nat), .int .i64 (a : Nat), u12, u13, u14, u15, u16, u17, u18, u19, u20, u21, u22, u23, u24, u25, u26, u27, u28, u29, u30, u31, u32, u33, u34, u35, u36], defers := ds }) N ⟨_, _, _, _, _, _, _, _, _, _, _, _, _, _, _, _, _, _, _, _, _, _, _, _, _, _, _, _, [], 0, _, ⟨Nat.zero_le _, Nat.le_refl _, Lib.hid ⟨H1.out, fun h => h, fun d hd => by cases hd⟩, KY, hyV, Lib.hid trivial⟩, rfl⟩ ?_
  intro gk act wr hinv J K hJ hK
  obtain ⟨u3, u4, u5, u12, u13, u14, u15, u16, u17, u18, u19, u20, u21, u22, u23, u24, u25, u26, u27, u28, u29, u30, u31, u32, u33, u34, u35, u36, ds, a, G0, ⟨ha, hga, HI, KYw, hyw, HM⟩, rfl⟩ := hinv
  clear H1 KY hyV
  by_cases haN : a < N
  · obtain ⟨ks, hM⟩ := HH.out.1 _ _ wr HI.out.1
    have G0s := HH.out.2.2.2.2 _ _ _ HI.out.1
    have HNG := Lib.hid HI.out.2
    have b0 := ks.cell 0
    simp only [List.getElem?_toArray, List.getElem?_cons_zero] at b0
    have lbw := ks.lt
    have hbs2 : bs ≠ wr.heap.size := by omega
    clear ks hM
    gi_wp2_with fail
    refine ⟨trivial, callsIn_wide.2 ?_⟩
    refine calls_w ?_
    intro V1 hV1
    have KA : Blk V1 wr.heap.size #[.int .i64 (a : Nat)] 3 := by rw [hV1]; exact Blk.new _ _ _
    have hb1 : Below wr.heap.size wr V1 := by rw [hV1]; exact below_a1 _ _
    clear hV1 b0
    refine (Around_is t a V1).mono ?_
    rintro e V2 ⟨rfl, kcs, kca, hb2⟩
    have KA2 := Lib.hid (KA.of hb2)
    have z1 := KA.lt
    have z2 := kca.lt
    have hs1 := hb1.size
    have hs2 := hb2.size
    have I2 := Lib.hid (HH.out.2.1 _ _ _ _ (HH.out.2.1 _ _ _ _ HI.out.1 (.all hb1 (by omega))) (.all hb2 (by omega)))
    have KY2 := Lib.hid ((KYw.out.of hb1).of hb2)
    have HM2 : Hid (Marks y V2 ds) := Lib.hid ((HM.out.keep fun r _ h2 => hb1.block r h2).keep fun r _ h2 => hb2.block r h2)
    have HD2 : Hid (∀ d, d ∈ ds → ∀ r, d.target = .collected r → r < V2.heap.size) := Lib.hid fun d hd r hr => by have := HM.out.lt d hd r hr; omega
    have HG0 : Hid (∀ g, G0 g → B ≤ g ∧ g < wr.heap.size) := Lib.hid G0s
    clear G0s
    obtain ⟨ba, eba⟩ : ∃ b, wr.heap.size = b := ⟨_, rfl⟩
    obtain ⟨cs, ecs⟩ : ∃ b, V1.heap.size = b := ⟨_, rfl⟩
    obtain ⟨ca, eca⟩ : ∃ b, V1.heap.size + 1 = b := ⟨_, rfl⟩
    have o1 : y < ba := by omega
    have o2 : ba < cs := by omega
    have o3 : cs < ca := by omega
    have o4 : ca < V2.heap.size := by omega
    have o5 : B ≤ y := hB
    rw [eca] at kca ⊢
    rw [ecs] at kcs ⊢
    rw [eba] at KA2 HG0 ⊢
    have KC := Lib.hid (And.intro kcs kca)
    clear kcs kca KA hb1 hb2 HI KYw HM eba ecs eca z1 z2 hs1 hs2 hbs2 hyw
    gi_wp2_with fail
    obtain ⟨len, hlen⟩ : ∃ l, (O a).length = l := ⟨_, rfl⟩
    have HLEN := Lib.hid hlen
    have hrow : rowO N O (a : Int) = O a := by unfold rowO; rw [if_pos (by omega)]; rfl
    have hT := Around1_tells cs ca t D N X Y O n a (O a) hrow (V2.heap.size + 2)
    rw [hlen] at hT
    clear hlen hrow
    refine wpIn_rangeX (m := 1) (gf := 67) (lb := #[ptr cs 0, ptr ca 0]) (N := len) (encs := arE (O a)) (Kp := fun W => Blk W cs #[ptr t 0] 25 ∧ Blk W ca #[.int .i64 (a : Nat)] 3 ∧ SM W t D N X Y O n) rfl (fun args w => by go_simp) hT (fun _ => rfl)
      (fun G j W => (∃ Gt, I Gt (posO O a j) W ∧ (∀ g, Gt g → G0 g ∨ G g) ∧ ∀ g, G g → Gt g ∧ V2.heap.size + 2 ≤ g) ∧ Blk W y #[.func (.yield lid) #[] #[]] 117 ∧ Blk W ba #[.int .i64 (a : Nat)] 3 ∧ Blk W cs #[ptr t 0] 25 ∧ Blk W ca #[.int .i64 (a : Nat)] 3 ∧ Marks y W ds ∧ V2.heap.size ≤ W.heap.size)
      (fun c j W => c = .ret ∧ (∃ k, k ≤ L.length ∧ Ix k W) ∧ Marks y W ds ∧ V2.heap.size ≤ W.heap.size) ?hg ?stable ?xstable ?keeps ?start ?round ?done ?stop
    case hg =>
      rintro G k W ⟨⟨Gt, j1, j8, j9⟩, _⟩ g hg
      have := HH.out.2.2.2.2 _ _ _ j1 g (j9 g hg).1
      exact ⟨(j9 g hg).2, this.2⟩
    case stable =>
      rintro G k W W' ⟨⟨Gt, j1, j8, j9⟩, j2, j3, j4, j5, j6, j7⟩ ⟨hbl, hbg⟩
      refine ⟨⟨Gt, HH.out.2.1 _ _ W W' j1 ⟨hbl.mono (by omega), fun g hg hs => ?_⟩, j8, j9⟩, j2.below hbl (by omega), j3.below hbl (by omega), j4.below hbl (by omega), j5.below hbl (by omega), j6.putB hbl HD2.out, Nat.le_trans j7 hbl.size⟩
      rcases j8 g hg with h | h
      · exact hbl.block g (by have := HG0.out g h; omega)
      · exact hbg g h hs
    case xstable =>
      rintro c k W W' ⟨j1, ⟨k', j0, j2⟩, j6, j7⟩ hbl
      exact ⟨j1, ⟨k', j0, HH.out.2.2.1 _ W W' j2 (hbl.mono (by omega))⟩, j6.putB hbl HD2.out, Nat.le_trans j7 hbl.size⟩
    case keeps =>
      rintro G k W ⟨⟨Gt, j1, _, _⟩, j2, j3, j4, j5, j6, j7⟩
      exact ⟨j4, j5, (HH.out.1 _ _ W j1).2⟩
    case start => exact ⟨⟨G0, I2.out, fun g h => .inl h, fun g h => h.elim⟩, KY2.out, KA2.out, KC.out.1, KC.out.2, HM2.out, Nat.le_refl _⟩
    case round =>
      rintro l2 D2 k G W2 hk ⟨⟨Gt, j1, j8, j9⟩, j2, j3, j4, j5, j6, j7⟩ g1 g2 g3 g4
      obtain ⟨x, hx⟩ : ∃ x, (O a)[k]? = some x := ⟨_, List.getElem?_eq_getElem (show k < (O a).length by rw [HLEN.out]; exact hk)⟩
      have hE : arE (O a) k = #[.int .i64 x.1, .int .i64 x.2] := by unfold arE; rw [List.getD_eq_getElem?_getD, hx]; rfl
      rw [hE]
      obtain ⟨xb, xc⟩ := x
      have HX := Lib.hid hx
      have JJ := Lib.hid (And.intro j1 (And.intro j2 (And.intro j3 (And.intro j4 (And.intro j5 j6)))))
      have HGG := Lib.hid (And.intro j8 j9)
      have HGs := Lib.hid (HH.out.2.2.2.2 _ _ _ j1)
      clear j1 j2 j3 j4 j5 j6 j8 j9 hx hE hT
      gi_wp2
      refine ⟨⟨Fix2.of (OutL.refl [] _) g3 g4 (by simp) (by simp), AboveX.refl _ _ _⟩, ?_⟩
      intro W3 hW3
      obtain ⟨j1, j2, j3, j4, j5, j6⟩ := JJ.out
      have hgl : ∀ g, Gt g → g ≠ l2 := fun g hg e => by
        rcases HGG.out.1 g hg with h | h
        · have := HG0.out g h; omega
        · have := HGG.out.2 g h; omega
      have hI3 := Lib.hid (HH.out.2.1 _ _ W2 W3 j1 ⟨hW3.below (by omega) (by simp; omega), fun g hg hs => hW3.block g hs (by simpa using hgl g hg)⟩)
      have HNT : Hid (∀ g, g < V2.heap.size + 2 → ¬ G0 g → ¬ Gt g) := Lib.hid fun g h1 h2 h3 => by
        rcases HGG.out.1 g h3 with h | h
        · exact h2 h
        · have := HGG.out.2 g h; omega
      have HG0b : Hid (∀ g, ba ≤ g → ¬ G0 g) := Lib.hid fun g h1 h2 => by have := HG0.out g h2; omega
      have k2 := j2.outl hW3 (by simp; omega)
      have k3 := j3.outl hW3 (by simp; omega)
      have K4 := Lib.hid (j4.outl hW3 (by simp; omega))
      have K5 := Lib.hid (j5.outl hW3 (by simp; omega))
      have K6 := Lib.hid (j6.putB (hW3.below (B := V2.heap.size) (by omega) (by simp; omega)) HD2.out)
      have q1 := k2.cell 0
      have q2 := k3.cell 0
      simp only [List.getElem?_toArray, List.getElem?_cons_zero] at q1 q2
      have K2 := Lib.hid k2
      have K3 := Lib.hid k3
      have sz3 := hW3.size
      clear JJ j1 j2 j3 j4 j5 j6 k2 k3
      by_cases hc : a < xb ∧ a < xc
      · obtain ⟨c1, c2⟩ := hc
        have c1' : (a : Int) < (xb : Int) := by omega
        have c2' : (a : Int) < (xc : Int) := by omega
        obtain ⟨hpos, hat⟩ := posO_yes haN HX.out ⟨c1, c2⟩
        have hlt := posO_lt haN HX.out ⟨c1, c2⟩
        rw [HL.out] at hat hlt
        have hval : allE L (posO O a k) = #[tI a xb xc] := by unfold allE; rw [List.getD_eq_getElem?_getD, hat]; rfl
        obtain ⟨fn, tmps, assign, body, hy, hR2⟩ := yield_deep (m' := 0) (l0 := l2) (HH.out.2.2.2.1 _ _ W3 hlt hI3.out)
        rw [hval] at hy
        have HP := Lib.hid (And.intro hpos hlt)
        clear hpos hat hlt hval c1 c2
        gi_wp2
        refine hR2.mono ?_
        rintro e W5 ⟨(⟨rfl, G5, hG5, hI5⟩ | ⟨rfl, hx5⟩), hab⟩
        · have ny : y < V2.heap.size + 2 := by omega
          have b1 := hab.block y (by omega) (by omega) (HNT.out y (by omega) HNG.out.1)
          have b2 := hab.block ba (by omega) (by omega) (HNT.out ba (by omega) (HG0b.out ba (by omega)))
          have b3 := hab.block cs (by omega) (by omega) (HNT.out cs (by omega) (HG0b.out cs (by omega)))
          have b4 := hab.block ca (by omega) (by omega) (HNT.out ca (by omega) (HG0b.out ca (by omega)))
          have b5 := hab.block l2 (by omega) (by omega) (HNT.out l2 (by omega) (HG0b.out l2 (by omega)))
          have b6 := hab.block D2 (by omega) (by omega) (HNT.out D2 (by omega) (HG0b.out D2 (by omega)))
          have b7 : Marks y W5 ds := K6.out.keepD fun d hd r hr h1 h2 => hab.block r (by omega) h2 (HNT.out r (by have := HD2.out d hd r hr; omega) (HNG.out.2 d hd r hr))
          have b8 : AboveX (V2.heap.size + 2) G W3 W5 := ⟨hab.size, fun k h1 h2 h3 => hab.block k (by omega) h2 fun h4 => by
            rcases HGG.out.1 k h4 with h | h
            · exact HG0b.out k (by omega) h
            · exact h3 h⟩
          have GG : Hid ((Fix2 l2 D2 W3 W5 ∧ ∃ G' : Nat → Prop, (∀ g, G' g → G g ∨ W3.heap.size ≤ g) ∧ ((∃ Gt, I Gt (posO O a (k + 1)) W5 ∧ (∀ g, Gt g → G0 g ∨ G' g) ∧ ∀ g, G' g → Gt g ∧ V2.heap.size + 2 ≤ g) ∧ Blk W5 y #[.func (.yield lid) #[] #[]] 117 ∧ Blk W5 ba #[.int .i64 (a : Nat)] 3 ∧ Blk W5 cs #[ptr t 0] 25 ∧ Blk W5 ca #[.int .i64 (a : Nat)] 3 ∧ Marks y W5 ds ∧ V2.heap.size ≤ W5.heap.size)) ∧ AboveX (V2.heap.size + 2) G W3 W5) := by
            refine Lib.hid ⟨⟨⟨b5, b6⟩, fun g => G5 g ∧ V2.heap.size + 2 ≤ g, fun g hg => ?_, ⟨G5, by rw [HP.out.1]; exact hI5, fun g hg => ?_, fun g hg => hg⟩, b1.trans K2.out, b2.trans K3.out, b3.trans K4.out, b4.trans K5.out, b7, by have := hab.size; omega⟩, b8⟩
            · rcases hG5 g hg.1 with h | h
              · rcases HGG.out.1 g h with h2 | h2
                · exact absurd h2 (HG0b.out g (by omega))
                · exact .inl h2
              · exact .inr h
            · rcases hG5 g hg with h | h
              · rcases HGG.out.1 g h with h2 | h2
                · exact .inl h2
                · exact .inr ⟨hg, (HGG.out.2 g h2).2⟩
              · exact .inr ⟨hg, by omega⟩
          clear hI5 hG5 hab hy hR2 q1 q2 b1 b2 b3 b4 b5 b6 b7 b8
          gi_wp2
          exact GG.out
        · have ny : y < V2.heap.size + 2 := by omega
          have b1 := hab.block y (by omega) (by omega) (HNT.out y (by omega) HNG.out.1)
          have b2 := hab.block ba (by omega) (by omega) (HNT.out ba (by omega) (HG0b.out ba (by omega)))
          have b3 := hab.block cs (by omega) (by omega) (HNT.out cs (by omega) (HG0b.out cs (by omega)))
          have b4 := hab.block ca (by omega) (by omega) (HNT.out ca (by omega) (HG0b.out ca (by omega)))
          have b5 := hab.block l2 (by omega) (by omega) (HNT.out l2 (by omega) (HG0b.out l2 (by omega)))
          have b6 := hab.block D2 (by omega) (by omega) (HNT.out D2 (by omega) (HG0b.out D2 (by omega)))
          have b7 : Marks y W5 ds := K6.out.keepD fun d hd r hr h1 h2 => hab.block r (by omega) h2 (HNT.out r (by have := HD2.out d hd r hr; omega) (HNG.out.2 d hd r hr))
          have b8 : AboveX (V2.heap.size + 2) G W3 W5 := ⟨hab.size, fun k h1 h2 h3 => hab.block k (by omega) h2 fun h4 => by
            rcases HGG.out.1 k h4 with h | h
            · exact HG0b.out k (by omega) h
            · exact h3 h⟩
          have GG : Hid ((Fix2 l2 D2 W3 W5 ∧ ((∃ k, k ≤ L.length ∧ Ix k W5) ∧ Marks y W5 ds ∧ V2.heap.size ≤ W5.heap.size)) ∧ AboveX (V2.heap.size + 2) G W3 W5) :=
            Lib.hid ⟨⟨⟨b5, b6⟩, ⟨_, HP.out.2, hx5⟩, b7, by have := hab.size; omega⟩, b8⟩
          clear hx5 hab hy hR2 q1 q2 b1 b2 b3 b4 b5 b6 b7 b8
          gi_wp2
          exact ⟨⟨GG.out.1.1, rfl, GG.out.1.2⟩, GG.out.2⟩
      · have hpos := posO_no HX.out hc
        have GG : Hid ((Fix2 l2 D2 W3 W3 ∧ ∃ G' : Nat → Prop, (∀ g, G' g → G g ∨ W3.heap.size ≤ g) ∧ ((∃ Gt, I Gt (posO O a (k + 1)) W3 ∧ (∀ g, Gt g → G0 g ∨ G' g) ∧ ∀ g, G' g → Gt g ∧ V2.heap.size + 2 ≤ g) ∧ Blk W3 y #[.func (.yield lid) #[] #[]] 117 ∧ Blk W3 ba #[.int .i64 (a : Nat)] 3 ∧ Blk W3 cs #[ptr t 0] 25 ∧ Blk W3 ca #[.int .i64 (a : Nat)] 3 ∧ Marks y W3 ds ∧ V2.heap.size ≤ W3.heap.size)) ∧ AboveX (V2.heap.size + 2) G W3 W3) :=
          Lib.hid ⟨⟨⟨rfl, rfl⟩, G, fun g hg => .inl hg, ⟨Gt, by rw [hpos]; exact hI3.out, HGG.out.1, HGG.out.2⟩, K2.out, K3.out, K4.out, K5.out, K6.out, by omega⟩, AboveX.refl _ _ _⟩
        clear hpos
        by_cases c1 : a < xb
        · have c1' : (a : Int) < (xb : Int) := by omega
          have c2' : ¬ (a : Int) < (xc : Int) := by omega
          clear hc c1
          gi_wp2
          refine ⟨by simp, ?_⟩
          gi_wp2
          exact GG.out
        · have c1' : ¬ (a : Int) < (xb : Int) := by omega
          clear hc c1
          gi_wp2
          refine ⟨by simp, ?_⟩
          gi_wp2
          exact GG.out
    case done =>
      rintro Dd G V5 g1 ⟨⟨Gt, j1, j8, j9⟩, j2, j3, j4, j5, j6, j7⟩ hD
      have hnt : ∀ g, g < V2.heap.size + 2 → ¬ G0 g → ¬ Gt g := fun g h1 h2 h3 => by
        rcases j8 g h3 with h | h
        · exact h2 h
        · have := j9 g h; omega
      have hnew : Hid (I Gt (posO O (a + 1) 0) V5 ∧ ¬ Gt y ∧ ∀ d, d ∈ ({ target := .collected Dd, args := #[] } :: ds : List Deferred) → ∀ r, d.target = .collected r → ¬ Gt r) := Lib.hid ⟨by rw [posO_0, ← posO_all, HLEN.out]; exact j1, hnt y (by omega) HNG.out.1, fun d hd r hr => by
        rcases List.mem_cons.1 hd with rfl | hd
        · injection hr with hr
          exact hnt r (by omega) fun h => by have := HG0.out r h; omega
        · exact hnt r (by have := HD2.out d hd r hr; omega) (HNG.out.2 d hd r hr)⟩
      have hmk : Hid (Marks y V5 ({ target := .collected Dd, args := #[] } :: ds)) := Lib.hid ⟨⟨Dd, rfl, by omega, hD, fun d hd r hr => by have := HD2.out d hd r hr; omega⟩, j6⟩
      have J2 := Lib.hid j2
      clear j1 j2 j3 j4 j5 j6 j8 j9 hnt hD hT
      gi_wp2_with fail
      rw [show ((a : Int) + 1) = ((a + 1 : Nat) : Int) by norm_cast]
      exact ⟨N - (a + 1), by omega, hJ _ _ _ ⟨_, _, _, _, _, _, _, _, _, _, _, _, _, _, _, _, _, _, _, _, _, _, _, _, _, _, _, _, _, a + 1, _, ⟨haN, Nat.le_refl _, hnew, J2, by omega, hmk⟩, rfl⟩⟩
    case stop =>
      rintro Dd c k V5 g1 ⟨rfl, ⟨k', j0, j2⟩, j6, j7⟩ hD
      have hmk : Hid (Marks y V5 ({ target := .collected Dd, args := #[] } :: ds)) := Lib.hid ⟨⟨Dd, rfl, by omega, hD, fun d hd r hr => by have := HD2.out d hd r hr; omega⟩, j6⟩
      have J2 := Lib.hid j2
      clear j2 j6 hD hT
      gi_wp2
      refine leaves_marks (B := B) hB (fun _ => False) _ V5 (by omega) hmk.out (fun _ _ _ _ h => h) fun w' hb => ?_
      exact ⟨_, results_none rfl _ _ _, ⟨_, rfl⟩, .inr ⟨k', j0, HH.out.2.2.1 _ V5 w' J2.out hb.1⟩⟩
  · have haN2 : a = N := by omega
    have HF := Lib.hid (show I G0 L.length wr by rw [← HL.out, ← haN2, ← posO_0]; exact HI.out.1)
    have HNG := Lib.hid HI.out.2
    clear HI
    gi_wp2
    refine leaves_marks (B := B) hB G0 ds wr (by omega) HM.out HNG.out.2 fun w' hb => ?_
    exact ⟨_, results_none rfl _ _ _, ⟨_, rfl⟩, .inl ⟨_, HH.out.2.1 _ _ wr w' HF.out hb⟩⟩
theorem All1_tells (bs t : Nat) (D : SD) (N : Nat) (X Y : Nat → Int) (O : Nat → List (Nat × Nat)) (n : Int) (L : List Tri3) (hL : preO O N = L) (B : Nat) :
    TellsX Try.prog 63 #[ptr bs 0] L.length (allE L) B (fun W => Blk W bs #[ptr t 0] 25 ∧ SM W t D N X Y O n) :=
  fun m lid I Ix hK hG hst hxst hY W hB h0 => All1_any m lid bs t B D N X Y O n L hL I Ix hK hG hst hxst hY W hB h0
end Go.Proofs.Ytdlpfiiakmhnlaa

namespace Go.Proofs.Ytdlpfiiakmhnlaa
open Go.RowKit Go.Shelf
attribute [local go_sem] Oper.semAt_some

def tC (l : List Tri3) : List Value := l.flatMap fun t => [.int .i64 (t.1 : Nat), .int .i64 (t.2.1 : Nat), .int .i64 (t.2.2 : Nat)]
/-- an owned slice of triangles -/
def TL (w : World) (base : Nat) (v : Value) (L : List Tri3) : Prop := w.ownsRow base 35 3 v L.length (tC L)
theorem TL.none {w : World} {base : Nat} : TL w base (.slice none 0 0) [] := ⟨rfl, .inl ⟨rfl, rfl⟩⟩
theorem tC_app (l m : List Tri3) : tC (l ++ m) = tC l ++ tC m := by unfold tC; rw [List.flatMap_append]
theorem info_tri : (Try.prog.info? 35).map (fun i => (i.zero, i.size, i.bytes)) = some (some (.agg #[.int .i64 0, .int .i64 0, .int .i64 0]), 3, 24) := by kernel_rfl
theorem TL.of {w w' : World} {base : Nat} {v : Value} {L : List Tri3} (h : TL w base v L) (hb : ∀ g, v.ownBlock = some g → w'.heap[g]? = w.heap[g]?) : TL w' base v L := by
  refine ⟨h.1, h.2.imp id ?_⟩
  rintro ⟨g, cap, cur, rfl, hbg, hh, r⟩
  exact ⟨g, cap, cur, rfl, hbg, (hb g rfl).trans hh, r⟩
theorem own_belowT {w w' : World} {base : Nat} {v : Value} {n : Nat} {xs : List Value} {e : TypeId} {sz : Nat} (h : w.ownsRow base e sz v n xs) (hb : Below w.heap.size w w') : w'.ownsRow base e sz v n xs := by
  refine ⟨h.1, h.2.imp id ?_⟩
  rintro ⟨g, cap, cur, rfl, hbg, hg, r⟩
  exact ⟨g, cap, cur, rfl, hbg, (hb.block _ (Array.getElem?_eq_some_iff.1 hg).1).trans hg, r⟩
theorem TL.lt {w : World} {base : Nat} {v : Value} {L : List Tri3} (h : TL w base v L) {g : Nat} (hg : v.ownBlock = some g) : base ≤ g ∧ g < w.heap.size := World.ownsRow.lt h g hg
set_option maxRecDepth 100000 in
set_option maxHeartbeats 2000000 in
theorem all_is (t : Nat) (D : SD) (N : Nat) (X Y : Nat → Int) (O : Nat → List (Nat × Nat)) (n : Int) (L : List Tri3) (hL : preO O N = L) (hlen : L.length < 100000000) (w : World) (h : SM w t D N X Y O n) :
    Calls Try.prog 18 #[ptr t 0] w fun e w' => ∃ v, e = .returned v ∧ TL w' w.heap.size v L ∧ Below w.heap.size w w' := by
  have HS := Lib.hid h
  have HLN := Lib.hid hlen
  clear h hlen
  refine (callsIn_wide (n := 3)).1 ?_
  refine callsIn_of_wp_marks Try.func18 rfl trivial ?_ rfl
  simp only [Try.ntmps18, List.size_toArray, List.length_cons, List.length_nil, Nat.reduceAdd, Nat.reduceSub, Array.replicate_succ, Array.replicate_zero, List.push_toArray, List.append_toArray, List.nil_append, List.cons_append]
  gi_wp2_with fail
  refine ⟨trivial, callsIn_wide.2 ?_⟩
  refine calls_w ?_
  intro V hV
  have kO : Blk V w.heap.size #[.slice none 0 0] 38 := by rw [hV]; exact Blk.new w _ _
  have hbV : Below w.heap.size w V := by rw [hV]; exact below_a1 _ _
  clear hV
  refine (All_is t V).mono ?_
  rintro e V2 ⟨rfl, kS, hb2⟩
  have kO2 := kO.of hb2
  have S2 := Lib.hid (HS.out.of (hbV.trans (hb2.mono hbV.size)))
  have hbw2 := hbV.trans (hb2.mono hbV.size)
  have z1 := kO.lt
  have z2 := kS.lt
  have zt := HS.out.blk.lt
  obtain ⟨ob, eob⟩ : ∃ b, w.heap.size = b := ⟨_, rfl⟩
  obtain ⟨bs, ebs⟩ : ∃ b, V.heap.size = b := ⟨_, rfl⟩
  have o1 : ob < bs := by omega
  have o2 : w.heap.size ≤ ob := by omega
  rw [ebs] at kS z2 ⊢
  rw [eob] at kO2
  rw [show w.heap.size = ob from eob]
  clear kO ebs eob hb2 hbV z1
  gi_wp2_with fail
  have hwV := hbw2.size
  have zt2 : t < w.heap.size := HS.out.blk.lt
  refine wpIn_rangeX (m := 1) (gf := 63) (lb := #[ptr bs 0]) (N := L.length) (encs := allE L) (Kp := fun W => Blk W bs #[ptr t 0] 25 ∧ SM W t D N X Y O n) rfl (fun args w => by go_simp) (All1_tells bs t D N X Y O n L hL _) (fun _ => rfl)
    (fun G k W => ∃ v, Blk W ob #[v] 38 ∧ TL W (V2.heap.size + 2) v (L.take k) ∧ Blk W bs #[ptr t 0] 25 ∧ Below w.heap.size w W ∧ ∀ g, G g ↔ v.ownBlock = some g)
    (fun _ _ _ => False) ?hg ?stable (fun _ _ _ _ h _ => h.elim) ?keeps ?start ?round ?done (fun _ _ _ _ _ h _ => h.elim)
  case hg =>
    rintro G k W ⟨v, j1, j2, j3, j4, j5⟩ g hg
    exact j2.lt ((j5 g).1 hg)
  case stable =>
    rintro G k W W' ⟨v, j1, j2, j3, j4, j5⟩ ⟨hbl, hbg⟩
    exact ⟨v, j1.below hbl (by omega), j2.of fun g hg => hbg g ((j5 g).2 hg) (j2.lt hg).2, j3.below hbl (by omega), j4.trans (hbl.mono (by omega)), j5⟩
  case keeps =>
    rintro G k W ⟨v, j1, j2, j3, j4, j5⟩
    exact ⟨j3, HS.out.of j4⟩
  case start => exact ⟨_, kO2, TL.none, kS, hbw2, fun g => ⟨fun h => h.elim, fun h => by cases h⟩⟩
  case round =>
    rintro l2 D2 k G W2 hk ⟨v, j1, j2, j3, j4, j5⟩ g1 g2 g3 g4
    obtain ⟨⟨a, b, c⟩, hx⟩ : ∃ x, L[k]? = some x := ⟨_, List.getElem?_eq_getElem hk⟩
    have hE : allE L k = #[tI a b c] := by unfold allE; rw [List.getD_eq_getElem?_getD, hx]; rfl
    rw [hE]
    have JJ := Lib.hid (And.intro j1 (And.intro j2 (And.intro j3 (And.intro j4 j5))))
    have HX := Lib.hid hx
    clear j1 j2 j3 j4 j5 hE hx
    gi_wp2_with fail
    have ha1 := below_a1 W2 (.cells #[.int .i64 (a : Nat), .int .i64 (b : Nat), .int .i64 (c : Nat)] 36)
    refine ⟨⟨⟨ha1.block _ g3, ha1.block _ g4⟩, .ofAbove (.ofBelow ha1)⟩, ?_⟩
    intro W3 hW3
    obtain ⟨j1, j2, j3, j4, j5⟩ := JJ.out
    have kT : Blk W3 W2.heap.size #[.int .i64 (a : Nat), .int .i64 (b : Nat), .int .i64 (c : Nat)] 36 := (Blk.new W2 _ _).outl hW3 (by simp; omega)
    have kO3 : Blk W3 ob #[v] 38 := (j1.of ha1).outl hW3 (by simp; omega)
    have KS3 := Lib.hid (show Blk W3 bs #[ptr t 0] 25 from (j3.of ha1).outl hW3 (by simp; omega))
    have T3 : TL W3 (V2.heap.size + 2) v (L.take k) := j2.of fun g hg => by
      have := j2.lt hg
      exact (hW3.block g (by simp; omega) (by simp; omega)).trans (ha1.block g this.2)
    have B3 := Lib.hid (show Below w.heap.size w W3 from (j4.trans (ha1.mono (by have := j4.size; omega))).trans (hW3.below (by have := j4.size; simp; omega) (by simp; omega)))
    have hl : (L.take k).length = k := by rw [List.length_take]; omega
    unfold TL at T3
    rw [hl] at T3
    have T3L := Lib.hid T3
    have x0 := kO3.cell 0
    have t0 := kT.cell 0
    have t1 := kT.cell 1
    have t2 := kT.cell 2
    simp only [List.getElem?_toArray, List.getElem?_cons_zero, List.getElem?_cons_succ] at x0 t0 t1 t2
    have lO := kO3.lt
    have lT := kT.lt
    have KO3 := Lib.hid kO3
    have J5 := Lib.hid j5
    have hsz3 : V2.heap.size + 2 ≤ W3.heap.size := by have := hW3.size; simp at this; omega
    obtain ⟨i0, hi, hz0, hz1, hz2⟩ := info_parts info_tri
    clear j1 j2 j3 j4 j5 JJ kT kO3 hl ha1 hW3
    have hown := own_belowT T3L.out (below_a1 W3 (.cells #[.int .i64 (a : Nat), .int .i64 (b : Nat), .int .i64 (c : Nat)] 35))
    gi_wp2_with (gi_at_builtin; go_loud (refine wpListIn_append_own_at _ rfl _ _ 38 rfl (V2.heap.size + 2) 35 i0 (.agg #[.int .i64 0, .int .i64 0, .int .i64 0]) 3 24 Try.underlying38 hi hz0 hz1 hz2 rfl (by decide) v k (tC (L.take k)) rfl hown ⟨W3.heap.size, 0, none⟩ 1 1 [.int .i64 (a : Nat), .int .i64 (b : Nat), .int .i64 (c : Nat)] rfl rfl ?c1 ?c2 ?c3 ?c4 ?c5 ?_))
    case c1 =>
      intro j u hj
      match j, hj with
      | 0, hj => simp at hj; subst hj; exact (Blk.new W3 _ _).cell 0
      | 1, hj => simp at hj; subst hj; exact (Blk.new W3 _ _).cell 1
      | 2, hj => simp at hj; subst hj; exact (Blk.new W3 _ _).cell 2
      | j + 3, hj => simp at hj
    case c2 => intro u hu; simp at hu; rcases hu with rfl | rfl | rfl <;> rfl
    case c3 => unfold maxLen; have := HLN.out; omega
    case c4 => have := HLN.out; omega
    case c5 => simp; omega
    intro v1 w1 own1 gr1 _ hat
    obtain ⟨aa, ll, cc, hv1⟩ : ∃ aa ll cc, v1 = .slice aa ll cc := by rcases own1.2 with ⟨e, _⟩ | ⟨g, cap, cur, e, _⟩ <;> exact ⟨_, _, _, e⟩
    subst hv1
    have hsa : (W3.alloc (.cells #[.int .i64 (a : Nat), .int .i64 (b : Nat), .int .i64 (c : Nat)] 35)).heap.size = W3.heap.size + 1 := by simp
    have hown2 : ∀ g, v.ownBlock = some g → V2.heap.size + 2 ≤ g := fun g hg => (World.ownsRow.lt T3L.out g hg).1
    have hW1 : ∀ g, g < W3.heap.size → v.ownBlock ≠ some g → w1.heap[g]? = W3.heap[g]? := fun g h1 h2 => (gr1.block g (by omega) (fun e => h2 e.symm)).trans ((below_a1 W3 _).block g h1)
    have hWf : ∀ g, g ≠ ob → (w1.setCell ⟨ob, 0, none⟩ (.slice aa ll cc)).heap[g]? = w1.heap[g]? := fun g h => Below.heap_setCell w1 ⟨ob, 0, none⟩ (.slice aa ll cc) g h
    have hss : W3.heap.size ≤ w1.heap.size := by have := gr1.size; omega
    have hsf : (w1.setCell ⟨ob, 0, none⟩ (.slice aa ll cc)).heap.size = w1.heap.size := by simp [World.setCell]
    have KO1 : Blk w1 ob #[v] 38 := (hW1 ob lO (fun e => by have := hown2 _ e; omega)).trans KO3.out
    have x1 := KO1.cell 0
    have f1 := KO1.free 0
    have l1 := KO1.lt
    simp only [List.getElem?_toArray, List.getElem?_cons_zero] at x1
    have GG : Hid ((Fix2 l2 D2 W3 (w1.setCell ⟨ob, 0, none⟩ (.slice aa ll cc)) ∧ ∃ G' : Nat → Prop, (∀ g, G' g → G g ∨ W3.heap.size ≤ g) ∧ ∃ v, Blk (w1.setCell ⟨ob, 0, none⟩ (.slice aa ll cc)) ob #[v] 38 ∧ TL (w1.setCell ⟨ob, 0, none⟩ (.slice aa ll cc)) (V2.heap.size + 2) v (L.take (k + 1)) ∧ Blk (w1.setCell ⟨ob, 0, none⟩ (.slice aa ll cc)) bs #[ptr t 0] 25 ∧ Below w.heap.size w (w1.setCell ⟨ob, 0, none⟩ (.slice aa ll cc)) ∧ ∀ g, G' g ↔ v.ownBlock = some g) ∧ AboveX (V2.heap.size + 2) G W3 (w1.setCell ⟨ob, 0, none⟩ (.slice aa ll cc))) := by
      have fx : ∀ g, g < W3.heap.size → v.ownBlock ≠ some g → g ≠ ob → (w1.setCell ⟨ob, 0, none⟩ (.slice aa ll cc)).heap[g]? = W3.heap[g]? := fun g h1 h2 h3 => (hWf g h3).trans (hW1 g h1 h2)
      have nO : ∀ g, g < V2.heap.size + 2 → v.ownBlock ≠ some g := fun g h e => by have := hown2 g e; omega
      refine Lib.hid ⟨⟨⟨fx l2 (by omega) (nO _ (by omega)) (by omega), fx D2 (by omega) (nO _ (by omega)) (by omega)⟩, fun g => (Value.slice aa ll cc).ownBlock = some g, fun g hg => ?_, .slice aa ll cc, KO1.put 0 (.slice aa ll cc), ?_, (fx bs KS3.out.lt (nO _ (by omega)) (by omega)).trans KS3.out, ?_, fun g => Iff.rfl⟩, ?_⟩
      · rcases hat with e | e
        · exact .inl ((J5.out g).2 (by rw [← e]; exact hg))
        · rw [e] at hg; injection hg with hg; exact .inr (by omega)
      · have h1 : TL w1 (V2.heap.size + 2) (.slice aa ll cc) (L.take (k + 1)) := by
          have e : L.take (k + 1) = L.take k ++ [(a, b, c)] := by rw [List.take_add_one, HX.out]; rfl
          unfold TL
          rw [e, tC_app, List.length_append, List.length_take, show min k L.length = k by omega]
          exact own1
        exact h1.of fun g hg => hWf g (by have := (h1.lt hg).1; omega)
      · have gb : Below w.heap.size W3 (w1.setCell ⟨ob, 0, none⟩ (.slice aa ll cc)) := ⟨gr1.os, gr1.tape, gr1.output, by omega, fun g hg => fx g (by omega) (nO g (by omega)) (by omega)⟩
        exact B3.out.trans gb
      · exact ⟨by omega, fun g h1 h2 h3 => fx g h2 (fun e => h3 ((J5.out g).2 e)) (by omega)⟩
    clear own1 gr1 hat hown hsa hW1 hWf KO1 x0 t0 t1 t2 T3L
    gi_wp2
    exact GG.out
  case done =>
    rintro Dd G V5 g1 ⟨v, j1, j2, j3, j4, j5⟩ hD
    have c0 := j1.cell 0
    simp only [List.getElem?_toArray, List.getElem?_cons_zero] at c0
    rw [List.take_length] at j2
    have l0 := j1.lt
    have JJ := Lib.hid (And.intro j2 j4)
    clear j1 j2 j3 j4 j5
    gi_wp2
    refine ⟨by simp, .inl ⟨_, _, rfl, run_takeDeferred hD, ?_⟩⟩
    simp only [LeavesInM, LeavesIn]
    refine ⟨v, by simp [results, Try.results18, go_sem], v, rfl, ?_, ?_⟩
    · have h1 : TL (V5.putObj Dd (.deferred none)) (V2.heap.size + 2) v L := JJ.out.1.of fun g hg => World.putObj_heap_other (by have := (JJ.out.1.lt hg).1; omega)
      rcases h1.2 with h2 | ⟨g, cap, cur, e1, e2, e3, e4⟩
      · exact ⟨h1.1, .inl h2⟩
      · exact ⟨h1.1, .inr ⟨g, cap, cur, e1, by omega, e3, e4⟩⟩
    · exact JJ.out.2.trans ((putObj_out V5 Dd _).below (by have := JJ.out.2.size; omega) (by simp; omega))
end Go.Proofs.Ytdlpfiiakmhnlaa

namespace Go.Proofs.Ytdlpfiiakmhnlaa
open Go.RowKit

theorem look_mem {L : List (Nat × Nat)} (hs : SortH L) {b c : Nat} : (b, c) ∈ L ↔ lookH L b = some c := by
  constructor
  · intro h
    obtain ⟨i, hi⟩ := List.mem_iff_getElem?.1 h
    exact lookH_some hs hi rfl
  · intro h
    unfold lookH at h
    rw [Option.map_eq_some_iff] at h
    obtain ⟨x, hx, e⟩ := h
    have h1 := List.find?_some hx
    have h2 := List.mem_of_find?_eq_some hx
    simp at h1
    obtain ⟨x1, x2⟩ := x
    simp at h1 e
    obtain rfl : x1 = b := by omega
    rw [← e]; exact h2
/-- a side's triangle has its other sides too -/
structure Cyc (O : Nat → List (Nat × Nat)) : Prop where
  srt : ∀ a, SortH (O a)
  rot : ∀ a b c : Nat, lookH (O a) b = some c → lookH (O b) c = some a
  ne : ∀ a b c : Nat, lookH (O a) b = some c → a ≠ b
theorem Cyc.nil : Cyc (fun _ => []) := ⟨fun _ j k x y _ h => by simp at h, fun _ _ _ h => (by cases h), fun _ _ _ h => (by cases h)⟩
theorem look_put1 {O : Nat → List (Nat × Nat)} (hs : ∀ a, SortH (O a)) {a b c : Nat} (hn : lookH (O a) b = none) (x y : Nat) : lookH (put1 O a b c x) y = if x = a ∧ y = b then some c else lookH (O x) y := by
  unfold put1
  by_cases e : x = a
  · subst e
    rw [if_pos rfl, lookH_ins (hs x) hn]
    by_cases e2 : y = b
    · rw [if_pos e2, if_pos ⟨rfl, e2⟩]
    · rw [if_neg e2, if_neg (fun h => e2 h.2)]
  · rw [if_neg e, if_neg (fun h => e h.1)]
theorem sort_put1 {O : Nat → List (Nat × Nat)} (hs : ∀ a, SortH (O a)) {a b c : Nat} (hn : lookH (O a) b = none) : ∀ x, SortH (put1 O a b c x) := by
  intro x
  unfold put1
  split
  · exact insH_sort (hs a) (lookH_absent hn)
  · exact hs x
/-- three sides that are not there -/
def NewT (O : Nat → List (Nat × Nat)) (a b c : Nat) : Prop := a ≠ b ∧ b ≠ c ∧ a ≠ c ∧ lookH (O a) b = none ∧ lookH (O b) c = none ∧ lookH (O c) a = none
theorem look_putT {O : Nat → List (Nat × Nat)} (hs : ∀ a, SortH (O a)) {a b c : Nat} (h : NewT O a b c) (x y : Nat) :
    lookH (putT O a b c x) y = if x = a ∧ y = b then some c else if x = b ∧ y = c then some a else if x = c ∧ y = a then some b else lookH (O x) y := by
  obtain ⟨n1, n2, n3, h1, h2, h3⟩ := h
  have s1 := sort_put1 (c := c) hs h1
  have e2 : lookH (put1 O a b c b) c = none := by rw [look_put1 hs h1, if_neg (by omega)]; exact h2
  have s2 := sort_put1 (c := a) s1 e2
  have e3 : lookH (put1 (put1 O a b c) b c a c) a = none := by rw [look_put1 s1 e2, if_neg (by omega), look_put1 hs h1, if_neg (by omega)]; exact h3
  unfold putT
  rw [look_put1 s2 e3, look_put1 s1 e2, look_put1 hs h1]
  by_cases c1 : x = a ∧ y = b
  · rw [if_pos c1, if_pos c1, if_neg (by omega), if_neg (by omega)]
  · rw [if_neg c1, if_neg c1]
    by_cases c2 : x = b ∧ y = c
    · rw [if_pos c2, if_pos c2, if_neg (by omega)]
    · rw [if_neg c2, if_neg c2]
theorem sort_putT {O : Nat → List (Nat × Nat)} (hs : ∀ a, SortH (O a)) {a b c : Nat} (h : NewT O a b c) : ∀ x, SortH (putT O a b c x) := by
  obtain ⟨n1, n2, n3, h1, h2, h3⟩ := h
  have s1 := sort_put1 (c := c) hs h1
  have e2 : lookH (put1 O a b c b) c = none := by rw [look_put1 hs h1, if_neg (by omega)]; exact h2
  have s2 := sort_put1 (c := a) s1 e2
  have e3 : lookH (put1 (put1 O a b c) b c a c) a = none := by rw [look_put1 s1 e2, if_neg (by omega), look_put1 hs h1, if_neg (by omega)]; exact h3
  exact sort_put1 s2 e3
theorem Cyc.put {O : Nat → List (Nat × Nat)} (hO : Cyc O) {a b c : Nat} (h : NewT O a b c) : Cyc (putT O a b c) := by
  have L := look_putT hO.srt h
  obtain ⟨n1, n2, n3, h1, h2, h3⟩ := h
  have key : ∀ x y z : Nat, lookH (putT O a b c x) y = some z → (x = a ∧ y = b ∧ z = c) ∨ (x = b ∧ y = c ∧ z = a) ∨ (x = c ∧ y = a ∧ z = b) ∨ lookH (O x) y = some z := by
    intro x y z hz
    rw [L] at hz
    split at hz
    · rename_i e; injection hz with hz; exact .inl ⟨e.1, e.2, hz.symm⟩
    · split at hz
      · rename_i e; injection hz with hz; exact .inr (.inl ⟨e.1, e.2, hz.symm⟩)
      · split at hz
        · rename_i e; injection hz with hz; exact .inr (.inr (.inl ⟨e.1, e.2, hz.symm⟩))
        · exact .inr (.inr (.inr hz))
  refine ⟨sort_putT hO.srt ⟨n1, n2, n3, h1, h2, h3⟩, fun x y z hz => ?_, fun x y z hz => ?_⟩
  · rw [L]
    rcases key x y z hz with ⟨rfl, rfl, rfl⟩ | ⟨rfl, rfl, rfl⟩ | ⟨rfl, rfl, rfl⟩ | hz
    · rw [if_neg (by omega), if_pos ⟨rfl, rfl⟩]
    · rw [if_neg (by omega), if_neg (by omega), if_pos ⟨rfl, rfl⟩]
    · rw [if_pos ⟨rfl, rfl⟩]
    · have r := hO.rot x y z hz
      rw [if_neg, if_neg, if_neg]
      · exact r
      · rintro ⟨rfl, rfl⟩; rw [h3] at r; cases r
      · rintro ⟨rfl, rfl⟩; rw [h2] at r; cases r
      · rintro ⟨rfl, rfl⟩; rw [h1] at r; cases r
  · rcases key x y z hz with ⟨rfl, rfl, rfl⟩ | ⟨rfl, rfl, rfl⟩ | ⟨rfl, rfl, rfl⟩ | hz
    · exact n1
    · exact n2
    · exact n3.symm
    · exact hO.ne x y z hz
theorem Cyc.all {N : Nat} : ∀ (l : List Tri3) {O : Nat → List (Nat × Nat)}, Cyc O → PutOk N O l → Cyc (putAll O l) := by
  intro l
  induction l with
  | nil => intro O h _; exact h
  | cons t l ih =>
    intro O h hp
    obtain ⟨⟨_, _, _, n1, n2, n3, h1, h2, h3⟩, hp⟩ := hp
    exact ih (h.put ⟨n1, n2, n3, h1, h2, h3⟩) hp
theorem mem_told {a : Nat} {L : List (Nat × Nat)} {t : Tri3} : t ∈ told a L ↔ t.1 = a ∧ (t.2.1, t.2.2) ∈ L ∧ a < t.2.1 ∧ a < t.2.2 := by
  unfold told
  rw [List.mem_map]
  constructor
  · rintro ⟨x, hx, rfl⟩
    rw [List.mem_filter] at hx
    obtain ⟨h1, h2⟩ := hx
    simp at h2
    exact ⟨rfl, h1, h2.1, h2.2⟩
  · rintro ⟨rfl, h1, h2, h3⟩
    exact ⟨(t.2.1, t.2.2), List.mem_filter.2 ⟨h1, by simp [h2, h3]⟩, rfl⟩
theorem mem_preO {O : Nat → List (Nat × Nat)} {t : Tri3} : ∀ {N : Nat}, t ∈ preO O N ↔ t.1 < N ∧ (t.2.1, t.2.2) ∈ O t.1 ∧ t.1 < t.2.1 ∧ t.1 < t.2.2
  | 0 => by constructor
            · intro h; cases h
            · intro h; omega
  | N + 1 => by
    show t ∈ preO O N ++ told N (O N) ↔ _
    rw [List.mem_append, mem_preO, mem_told]
    constructor
    · rintro (⟨h1, h2⟩ | ⟨h1, h2, h3, h4⟩)
      · exact ⟨by omega, h2⟩
      · exact ⟨by omega, by rw [h1]; exact h2, by omega, by omega⟩
    · rintro ⟨h1, h2, h3, h4⟩
      rcases Nat.lt_or_ge t.1 N with h | h
      · exact .inl ⟨h, h2, h3, h4⟩
      · have e : t.1 = N := by omega
        exact .inr ⟨e, by rw [← e]; exact h2, by omega, by omega⟩
theorem told_ins {a b c : Nat} : ∀ (L : List (Nat × Nat)), (told a (insH b c L)).length = (told a L).length + if a < b ∧ a < c then 1 else 0 := by
  have h1 : ∀ (x : Nat × Nat) L, (told a (x :: L)).length = (told a L).length + if a < x.1 ∧ a < x.2 then 1 else 0 := by
    intro x L
    unfold told
    rw [List.filter_cons]
    by_cases e : a < x.1 ∧ a < x.2
    · rw [if_pos e, if_pos (by simpa using e)]; simp
    · rw [if_neg e, if_neg (by simpa using e)]; rfl
  intro L
  induction L with
  | nil => show (told a [(b, c)]).length = _; rw [h1]
  | cons x l ih =>
    show (told a (if x.1 < b then x :: insH b c l else (b, c) :: x :: l)).length = _
    split
    · rw [h1, h1, ih]; omega
    · rw [h1]
theorem pre_put1 {O : Nat → List (Nat × Nat)} {a b c : Nat} : ∀ N, (preO (put1 O a b c) N).length = (preO O N).length + if a < N ∧ a < b ∧ a < c then 1 else 0
  | 0 => by rw [if_neg (by omega)]; rfl
  | N + 1 => by
    show (preO (put1 O a b c) N ++ told N (put1 O a b c N)).length = (preO O N ++ told N (O N)).length + _
    rw [List.length_append, List.length_append, pre_put1 N]
    unfold put1
    by_cases e : N = a
    · subst e
      rw [if_pos rfl, told_ins, if_neg (by omega)]
      by_cases h : N < b ∧ N < c
      · rw [if_pos h, if_pos (by omega)]; omega
      · rw [if_neg h, if_neg (by omega)]; omega
    · rw [if_neg e]
      by_cases h : a < N ∧ a < b ∧ a < c
      · rw [if_pos h, if_pos (by omega)]; omega
      · rw [if_neg h, if_neg (by omega)]; omega
theorem pre_putT {O : Nat → List (Nat × Nat)} {a b c N : Nat} (ha : a < N) (hb : b < N) (hc : c < N) (n1 : a ≠ b) (n2 : b ≠ c) (n3 : a ≠ c) : (preO (putT O a b c) N).length = (preO O N).length + 1 := by
  unfold putT
  rw [pre_put1, pre_put1, pre_put1]
  rcases (show (a < b ∧ a < c) ∨ (b < a ∧ b < c) ∨ (c < a ∧ c < b) by omega) with h | h | h
  · rw [if_pos (by omega), if_neg (by omega), if_neg (by omega)]
  · rw [if_neg (by omega), if_pos (by omega), if_neg (by omega)]
  · rw [if_neg (by omega), if_neg (by omega), if_pos (by omega)]
theorem pre_all {N : Nat} : ∀ (l : List Tri3) {O : Nat → List (Nat × Nat)}, PutOk N O l → (preO (putAll O l) N).length = (preO O N).length + l.length := by
  intro l
  induction l with
  | nil => intro O _; rfl
  | cons t l ih =>
    intro O hp
    obtain ⟨⟨a1, a2, a3, n1, n2, n3, h1, h2, h3⟩, hp⟩ := hp
    show (preO (putAll (putT O t.1 t.2.1 t.2.2) l) N).length = _
    rw [ih hp, pre_putT a1 a2 a3 n1 n2 n3, List.length_cons]; omega
theorem pre_nil : ∀ N, preO (fun _ => []) N = []
  | 0 => rfl
  | N + 1 => by show preO _ N ++ told N [] = []; rw [pre_nil N]; rfl
/-- its rows hold vertices alone -/
def DomO (N : Nat) (O : Nat → List (Nat × Nat)) : Prop := ∀ a b c : Nat, lookH (O a) b = some c → a < N ∧ b < N ∧ c < N
theorem leftO_of {N : Nat} {O : Nat → List (Nat × Nat)} {a b : Nat} (h : a < N) : leftO N O a b = lookH (O a) b := by unfold leftO; rw [if_pos (by omega)]; rfl
theorem dom_putT {N : Nat} {O : Nat → List (Nat × Nat)} (hs : ∀ a, SortH (O a)) {a b c : Nat} (h : NewT O a b c) (hd : DomO N O) (hn : a < N ∧ b < N ∧ c < N) : DomO N (putT O a b c) := by
  intro x y z hz
  rw [look_putT hs h] at hz
  split at hz
  · rename_i e; injection hz with hz; omega
  · split at hz
    · rename_i e; injection hz with hz; omega
    · split at hz
      · rename_i e; injection hz with hz; omega
      · exact hd x y z hz
theorem dom_all {N : Nat} : ∀ (l : List Tri3) {O : Nat → List (Nat × Nat)}, Cyc O → DomO N O → PutOk N O l → DomO N (putAll O l) := by
  intro l
  induction l with
  | nil => intro O _ h _; exact h
  | cons t l ih =>
    intro O hO h hp
    obtain ⟨⟨a1, a2, a3, n1, n2, n3, h1, h2, h3⟩, hp⟩ := hp
    exact ih (hO.put ⟨n1, n2, n3, h1, h2, h3⟩) (dom_putT hO.srt ⟨n1, n2, n3, h1, h2, h3⟩ h ⟨a1, a2, a3⟩) hp
end Go.Proofs.Ytdlpfiiakmhnlaa

namespace Go.Proofs.Ytdlpfiiakmhnlaa
open Go.RowKit

/-- a slice of triangles, to be read -/
structure Trs (w : World) (ao : Option Addr) (cap : Nat) (L : List Tri3) : Prop where
  ptr : 0 < L.length → ∃ g, ao = some ⟨g, 0, none⟩ ∧ g < w.heap.size ∧ ∀ j x, L[j]? = some x → w.cell? ⟨g, j * 3, none⟩ = some (.int .i64 (x.1 : Nat)) ∧ w.cell? ⟨g, j * 3 + 1, none⟩ = some (.int .i64 (x.2.1 : Nat)) ∧ w.cell? ⟨g, j * 3 + 2, none⟩ = some (.int .i64 (x.2.2 : Nat))
  capl : L.length ≤ cap
  capb : cap ≤ 9223372036854775807
theorem Trs.of {w w' : World} {ao : Option Addr} {cap : Nat} {L : List Tri3} (h : Trs w ao cap L) (hb : Below w.heap.size w w') : Trs w' ao cap L := by
  refine ⟨fun h0 => ?_, h.capl, h.capb⟩
  obtain ⟨g, e, hg, hc⟩ := h.ptr h0
  refine ⟨g, e, Nat.lt_of_lt_of_le hg hb.size, fun j x hx => ?_⟩
  obtain ⟨c0, c1, c2⟩ := hc j x hx
  exact ⟨(hb.cell (p := ⟨g, j * 3, none⟩) hg).trans c0, (hb.cell (p := ⟨g, j * 3 + 1, none⟩) hg).trans c1, (hb.cell (p := ⟨g, j * 3 + 2, none⟩) hg).trans c2⟩
theorem tC_at : ∀ {L : List Tri3} {j : Nat} {x : Tri3}, L[j]? = some x → (tC L)[j * 3]? = some (.int .i64 (x.1 : Nat)) ∧ (tC L)[j * 3 + 1]? = some (.int .i64 (x.2.1 : Nat)) ∧ (tC L)[j * 3 + 2]? = some (.int .i64 (x.2.2 : Nat))
  | [], j, x, h => by simp at h
  | y :: l, 0, x, h => by
    simp at h; subst h; exact ⟨rfl, rfl, rfl⟩
  | y :: l, j + 1, x, h => by
    have := tC_at (L := l) (j := j) (x := x) (by simpa using h)
    rw [show (j + 1) * 3 = j * 3 + 3 by omega]
    exact this
theorem Trs.ofRow {w : World} {base : Nat} {e : TypeId} {v : Value} {L : List Tri3} (h : w.ownsRow base e 3 v L.length (tC L)) : ∃ ao cap, v = .slice ao L.length cap ∧ Trs w ao cap L := by
  rcases h.2 with ⟨rfl, hn⟩ | ⟨g, cap, cur, rfl, hb, hg, h1, h2, h3, h4⟩
  · exact ⟨none, 0, by rw [hn], fun h0 => by omega, by omega, by omega⟩
  · refine ⟨_, cap, rfl, fun h0 => ⟨g, rfl, (Array.getElem?_eq_some_iff.1 hg).1, fun j x hx => ?_⟩, h1, by unfold maxLen at h2; omega⟩
    have hj : j < L.length := (List.getElem?_eq_some_iff.1 hx).1
    obtain ⟨f0, f1, f2⟩ := tC_at hx
    have c : ∀ k u, k < L.length * 3 → (tC L)[k]? = some u → w.cell? ⟨g, k, none⟩ = some u := fun k u hk hu => by
      rw [cell_row hg, ← Array.getElem?_toList]
      rw [← h4, List.getElem?_take_of_lt hk] at hu
      exact hu
    exact ⟨c _ _ (by omega) f0, c _ _ (by omega) f1, c _ _ (by omega) f2⟩
/-- two triangles alike? -/
def eqT (a b c d e f : Int) : Bool := a == d && b == e && c == f
@[go_sem] theorem run_eqT0 (a b c d e f : Int) (w : World) :
    (Op.equalIn 10000 35 (tI a b c) (tI d e f)).run Try.prog w = .ok (eqT a b c d e f) w := by
  have hu : Try.prog.underlying 35 = some (.array 3 3) := by kernel_rfl
  have hs : ∀ w, (sizeOf 3).run Try.prog w = .ok 1 w := fun w => by kernel_rfl
  have he : ∀ (a b : Int) w, (Op.equalIn 9999 3 (.int .i64 a) (.int .i64 b)).run Try.prog w = .ok (a == b) w := fun a b w => run_equalIn_int w 9998 _ .i64 .i64 a b (by kernel_rfl)
  have hp : ∀ (c : Array Value) (i : Nat) (v : Value) w, c[i]? = some v → (part 3 c i).run Try.prog w = .ok v w := by
    intro c i v w h
    have ha : (isAgg 3).run Try.prog w = .ok false w := by kernel_rfl
    unfold part
    simp [Sem.run_bind, ha, h]
  show (Op.equalIn (9999 + 1) _ _ _).run _ _ = _
  unfold Op.equalIn
  simp only [Sem.run_bind, run_underlying hu, Result.andThen_ok, hs]
  simp [List.range', he, hp, Sem.run_bind]
  unfold eqT
  by_cases h0 : a = d <;> by_cases h1 : b = e <;> by_cases h2 : c = f <;> simp [h0, h1, h2]
@[go_sem] theorem run_eqlT (a b c d e f : Int) (w : World) :
    (binOp .eql 35 (tI a b c) (tI d e f)).run Try.prog w = .ok (.bool (eqT a b c d e f)) w := by
  rw [run_eql_struct, run_eqT0]; rfl
@[go_sem] theorem run_neqT (a b c d e f : Int) (w : World) :
    (binOp .neq 35 (tI a b c) (tI d e f)).run Try.prog w = .ok (.bool (!eqT a b c d e f)) w := by
  rw [run_neq_struct, run_eqT0]; rfl
end Go.Proofs.Ytdlpfiiakmhnlaa

namespace Go.Proofs.Ytdlpfiiakmhnlaa
open Go.RowKit
attribute [local go_sem] undef

theorem Blk.put6c {w : World} {b : Nat} {c0 c1 c2 c3 c4 c5 : Value} {t : TypeId} (h : Blk w b #[c0, c1, c2, c3, c4, c5] t) (v0 v1 v2 v3 v4 v5 : Value) :
    Blk ((((((w.setCell ⟨b, 0, none⟩ v0).setCell ⟨b, 1, none⟩ v1).setCell ⟨b, 2, none⟩ v2).setCell ⟨b, 3, none⟩ v3).setCell ⟨b, 4, none⟩ v4).setCell ⟨b, 5, none⟩ v5) b #[v0, v1, v2, v3, v4, v5] t :=
  (((((h.put 0 v0).put 1 v1).put 2 v2).put 3 v3).put 4 v4).put 5 v5
theorem Blk.drewc {w : World} {b : Nat} {c : Array Value} {t : TypeId} (h : Blk w b c t) : Blk w.drew b c t := h
theorem below_put6 {w V : World} {B b : Nat} (h : Below B V w) (hB : B ≤ b) (v0 v1 v2 v3 v4 v5 : Value) :
    Below B V ((((((w.setCell ⟨b, 0, none⟩ v0).setCell ⟨b, 1, none⟩ v1).setCell ⟨b, 2, none⟩ v2).setCell ⟨b, 3, none⟩ v3).setCell ⟨b, 4, none⟩ v4).setCell ⟨b, 5, none⟩ v5) :=
  (((((h.setCell hB v0).setCell hB v1).setCell hB v2).setCell hB v3).setCell hB v4).setCell hB v5
set_option maxRecDepth 100000 in
set_option maxHeartbeats 4000000 in
theorem Corners_yes (t : Nat) (D : SD) (N : Nat) (X Y : Nat → Int) (O : Nat → List (Nat × Nat)) (n : Int) (a b c : Nat) (w : World) (h : SM w t D N X Y O n) (ha : a < N) (hb_ : b < N) (hc : c < N) (hl : lookH (O a) b = some c) :
    Calls Try.prog 19 #[ptr t 0, tI a b c] w fun e w' => e = .returned (.tuple #[.agg #[.int .i64 (X a), .int .i64 (Y a), .int .i64 (X b), .int .i64 (Y b), .int .i64 (X c), .int .i64 (Y c)], .bool true]) ∧ Below w.heap.size w w' := by
  have HS := Lib.hid h
  have HL := Lib.hid hl
  clear h hl
  go_enter Try.func19, Try.ntmps19
  go_wp2_with fail
  refine calls_w ?_
  intro V hV
  have kT : Hid (Blk V w.heap.size #[.int .i64 (a : Nat), .int .i64 (b : Nat), .int .i64 (c : Nat)] 36) := by rw [hV]; exact Lib.hid ((Blk.new w _ _).alloc _)
  have kZ : Hid (Blk V (w.heap.size + 1) #[.int .i64 0, .int .i64 0, .int .i64 0, .int .i64 0, .int .i64 0, .int .i64 0] 42) := by rw [hV]; exact Lib.hid (Blk.new1 w _ _ _)
  have bV : Hid (Below w.heap.size w V) := by rw [hV]; exact Lib.hid (below_a2 _ _ _)
  clear hV
  refine (Left_is t D N X Y O n a b V (HS.out.of bV.out) (some c) ((leftO_of ha).trans HL.out)).mono ?_
  rintro e V2 ⟨rfl, hb⟩
  have kT2 := Lib.hid (kT.out.of hb)
  have kZ2 := Lib.hid (kZ.out.of hb)
  have b2 := Lib.hid (bV.out.trans (hb.mono bV.out.size))
  obtain ⟨tb, etb⟩ : ∃ b, w.heap.size = b := ⟨_, rfl⟩
  obtain ⟨zb, ezb⟩ : ∃ b, w.heap.size + 1 = b := ⟨_, rfl⟩
  rw [ezb] at kZ2 ⊢
  rw [etb] at kT2 ⊢
  have hzb : w.heap.size ≤ zb := by omega
  clear hb kT kZ bV ezb etb
  have f0 := kT2.out.cell 0
  have f1 := kT2.out.cell 1
  have f2 := kT2.out.cell 2
  have lt := kT2.out.lt
  simp only [List.getElem?_toArray, List.getElem?_cons_zero, List.getElem?_cons_succ] at f0 f1 f2
  go_wp2_with fail
  have SM2 := Lib.hid (HS.out.of b2.out)
  obtain ⟨c0, _, _⟩ := SM2.out.c
  have lS := SM2.out.blk.lt
  have hsm := SM2.out.small
  have hcl := SM2.out.pts.capl
  have hcb := SM2.out.pts.capb
  obtain ⟨pa, hpa, hpt⟩ := SM2.out.pts.atP (by omega)
  rw [hpa] at c0
  have qa := hpt a ha
  have qb := hpt b hb_
  have qc := hpt c hc
  obtain ⟨ax, hax⟩ : ∃ x, X a = x := ⟨_, rfl⟩
  obtain ⟨ay, hay⟩ : ∃ x, Y a = x := ⟨_, rfl⟩
  obtain ⟨bx, hbx⟩ : ∃ x, X b = x := ⟨_, rfl⟩
  obtain ⟨b_y, hby⟩ : ∃ x, Y b = x := ⟨_, rfl⟩
  obtain ⟨cx, hcx⟩ : ∃ x, X c = x := ⟨_, rfl⟩
  obtain ⟨cy, hcy⟩ : ∃ x, Y c = x := ⟨_, rfl⟩
  rw [hax, hay] at qa
  rw [hbx, hby] at qb
  rw [hcx, hcy] at qc
  have qa0 := fun u => (qa u).1
  have qa1 := fun u => (qa u).2
  have qb0 := fun u => (qb u).1
  have qb1 := fun u => (qb u).2
  have qc0 := fun u => (qc u).1
  have qc1 := fun u => (qc u).2
  have z0 := kZ2.out.cell 0
  have y0 := kZ2.out.free 0
  have z1 := kZ2.out.cell 1
  have y1 := kZ2.out.free 1
  have z2 := kZ2.out.cell 2
  have y2 := kZ2.out.free 2
  have z3 := kZ2.out.cell 3
  have y3 := kZ2.out.free 3
  have z4 := kZ2.out.cell 4
  have y4 := kZ2.out.free 4
  have z5 := kZ2.out.cell 5
  have y5 := kZ2.out.free 5
  have lz := kZ2.out.lt
  simp only [List.getElem?_toArray, List.getElem?_cons_zero, List.getElem?_cons_succ] at z0 z1 z2 z3 z4 z5
  have HXX := Lib.hid (And.intro hax (And.intro hay (And.intro hbx (And.intro hby (And.intro hcx hcy)))))
  clear hax hay hbx hby hcx hcy hpt qa qb qc hpa
  refine wp_region_up V2.heap.size 24 [(true, 0), (true, 1), (true, 2), (true, 3), (true, 4), (true, 5), (true, 6), (true, 7), (true, 8), (true, 9), (true, 10), (true, 11), (true, 12), (true, 13), (true, 14), (true, 15), (true, 16), (true, 17), (true, 18), (true, 19), (true, 20), (true, 21), (true, 22), (true, 23)] (by kernel_rfl) (by kernel_rfl) (fun _ _ d _ _ h => by cases d <;> exact h) ?_
  have hb : Below V2.heap.size V2 V2.drew := (Below.refl _ _).drew
  iterate 24
    first | refine wpS_takeL rfl rfl ?_ | refine wpS_takeN rfl ⟨_, rfl⟩ ?_
    go_big_quiet_step (rfl)
    refine wpQuiet_nil ?_
  refine wpS_nil ?_
  simp only [List.drop_succ_cons, List.drop_zero]
  have kZ3 := Lib.hid (kZ2.out.of hb)
  have b3 := Lib.hid (b2.out.trans (hb.mono b2.out.size))
  clear hb
  go_wp2
  refine post_world ?_
  intro W hW
  have kW : Blk W zb #[.int .i64 ax, .int .i64 ay, .int .i64 bx, .int .i64 b_y, .int .i64 cx, .int .i64 cy] 42 := by rw [hW]; exact (kZ2.out.put6c (.int .i64 ax) (.int .i64 ay) (.int .i64 bx) (.int .i64 b_y) (.int .i64 cx) (.int .i64 cy)).drewc
  have bW : Below w.heap.size w W := by rw [hW]; exact (below_put6 b2.out hzb (.int .i64 ax) (.int .i64 ay) (.int .i64 bx) (.int .i64 b_y) (.int .i64 cx) (.int .i64 cy)).drew
  clear hW z0 z1 z2 z3 z4 z5 y0 y1 y2 y3 y4 y5 lz
  have z0 := kW.cell 0
  have z1 := kW.cell 1
  have z2 := kW.cell 2
  have z3 := kW.cell 3
  have z4 := kW.cell 4
  have z5 := kW.cell 5
  simp only [List.getElem?_toArray, List.getElem?_cons_zero, List.getElem?_cons_succ] at z0 z1 z2 z3 z4 z5
  simp [bodyPost, results, Try.results19, go_sem, z0, z1, z2, z3, z4, z5]
  obtain ⟨e1, e2, e3, e4, e5, e6⟩ := HXX.out
  exact ⟨⟨e1.symm, e2.symm, e3.symm, e4.symm, e5.symm, e6.symm⟩, bW⟩
end Go.Proofs.Ytdlpfiiakmhnlaa

namespace Go.Proofs.Ytdlpfiiakmhnlaa
open Go.RowKit
attribute [local go_sem] undef

/-- with the least corner first -/
def lst (a b c : Nat) : Tri3 := if a < b ∧ a < c then (a, b, c) else if b < a ∧ b < c then (b, c, a) else (c, a, b)
def lsM (a b c : Nat) : Nat := if a < b ∧ a < c then 0 else if b < a ∧ b < c then 1 else 2
theorem lst_rot {a b c : Nat} (n1 : a ≠ b) (n2 : b ≠ c) (n3 : a ≠ c) (h : ¬ (a < b ∧ a < c)) : lst b c a = lst a b c ∧ lsM b c a < lsM a b c := by
  unfold lst lsM
  rw [if_neg h, if_neg h]
  by_cases h1 : b < a ∧ b < c
  · rw [if_pos h1, if_pos h1, if_pos ⟨h1.2, h1.1⟩, if_pos ⟨h1.2, h1.1⟩]
    exact ⟨rfl, by omega⟩
  · rw [if_neg h1, if_neg h1, if_neg (by omega), if_pos (by omega), if_neg (by omega), if_pos (by omega)]
    exact ⟨rfl, by omega⟩
theorem Blk.put3c {w : World} {b : Nat} {c0 c1 c2 : Value} {t : TypeId} (h : Blk w b #[c0, c1, c2] t) (v0 v1 v2 : Value) : Blk (((w.setCell ⟨b, 0, none⟩ v0).setCell ⟨b, 1, none⟩ v1).setCell ⟨b, 2, none⟩ v2) b #[v0, v1, v2] t := ((h.put 0 v0).put 1 v1).put 2 v2
theorem below_put3 {w V : World} {B b : Nat} (h : Below B V w) (hB : B ≤ b) (v0 v1 v2 : Value) : Below B V (((w.setCell ⟨b, 0, none⟩ v0).setCell ⟨b, 1, none⟩ v1).setCell ⟨b, 2, none⟩ v2) := ((h.setCell hB v0).setCell hB v1).setCell hB v2
theorem Blk.set3c {w : World} {b b' : Nat} {c : Array Value} {t : TypeId} (h : Blk w b' c t) (hne : b' ≠ b) (v0 v1 v2 : Value) : Blk (((w.setCell ⟨b, 0, none⟩ v0).setCell ⟨b, 1, none⟩ v1).setCell ⟨b, 2, none⟩ v2) b' c t := ((h.set hne _ _ _).set hne _ _ _).set hne _ _ _
set_option maxRecDepth 100000 in
set_option maxHeartbeats 4000000 in
theorem least_is (a b c : Nat) (n1 : a ≠ b) (n2 : b ≠ c) (n3 : a ≠ c) (w : World) :
    Calls Try.prog 49 #[tI a b c] w fun e w' => e = .returned (tI (lst a b c).1 (lst a b c).2.1 (lst a b c).2.2) ∧ Below w.heap.size w w' := by
  go_enter Try.func49, Try.ntmps49
  go_wp2_with fail
  refine name_world ?_
  intro V hV
  have kT : Hid (Blk V w.heap.size #[.int .i64 (a : Nat), .int .i64 (b : Nat), .int .i64 (c : Nat)] 36) := by rw [hV]; exact Lib.hid ((Blk.new w _ _).alloc _)
  have kZ : Hid (Blk V (w.heap.size + 1) #[.int .i64 0, .int .i64 0, .int .i64 0] 36) := by rw [hV]; exact Lib.hid (Blk.new1 w _ _ _)
  have bV : Hid (Below w.heap.size w V) := by rw [hV]; exact Lib.hid (below_a2 _ _ _)
  obtain ⟨tb, etb⟩ : ∃ b, w.heap.size = b := ⟨_, rfl⟩
  obtain ⟨zb, ezb⟩ : ∃ b, w.heap.size + 1 = b := ⟨_, rfl⟩
  rw [ezb] at kZ ⊢
  rw [etb] at kT ⊢
  have hzt : tb < zb := by omega
  have hwt : w.heap.size ≤ tb := by omega
  clear hV etb ezb
  go_loopg [] (lsM a b c) (fun gk wr => ∃ x y z : Nat, x ≠ y ∧ y ≠ z ∧ x ≠ z ∧ lsM x y z ≤ gk ∧ Hid (lst x y z = lst a b c) ∧ Hid (Blk wr tb #[.int .i64 (x : Nat), .int .i64 (y : Nat), .int .i64 (z : Nat)] 36) ∧ Hid (Blk wr zb #[.int .i64 0, .int .i64 0, .int .i64 0] 36) ∧ Hid (Below w.heap.size w wr))
  case atStart => exact ⟨a, b, c, n1, n2, n3, Nat.le_refl _, Lib.hid rfl, kT, kZ, bV⟩
  case round =>
    clear kT kZ bV
    obtain ⟨x, y, z, m1, m2, m3, hm, HE, KT, KZ, HW⟩ := hrel
    have f0 := KT.out.cell 0
    have f1 := KT.out.cell 1
    have f2 := KT.out.cell 2
    have g0 := KT.out.free 0
    have g1 := KT.out.free 1
    have g2 := KT.out.free 2
    have lt := KT.out.lt
    simp only [List.getElem?_toArray, List.getElem?_cons_zero, List.getElem?_cons_succ] at f0 f1 f2
    by_cases hl : x < y ∧ x < z
    · obtain ⟨l1, l2⟩ := hl
      have q1 : ¬ ((y : Int) < (x : Int)) := by omega
      have q2 : ¬ ((z : Int) < (x : Int)) := by omega
      have z0 := KZ.out.cell 0
      have z1 := KZ.out.cell 1
      have z2 := KZ.out.cell 2
      have y0 := KZ.out.free 0
      have y1 := KZ.out.free 1
      have y2 := KZ.out.free 2
      have lz := KZ.out.lt
      simp only [List.getElem?_toArray, List.getElem?_cons_zero, List.getElem?_cons_succ] at z0 z1 z2
      go_wp2
      refine post_world ?_
      intro W hW
      have kW : Blk W zb #[.int .i64 (x : Nat), .int .i64 (y : Nat), .int .i64 (z : Nat)] 36 := by rw [hW]; exact KZ.out.put3c (.int .i64 (x : Nat)) (.int .i64 (y : Nat)) (.int .i64 (z : Nat))
      have bW : Below w.heap.size w W := by rw [hW]; exact below_put3 HW.out (by omega) (.int .i64 (x : Nat)) (.int .i64 (y : Nat)) (.int .i64 (z : Nat))
      clear hW z0 z1 z2 y0 y1 y2 lz f0 f1 f2 g0 g1 g2 lt
      have z0 := kW.cell 0
      have z1 := kW.cell 1
      have z2 := kW.cell 2
      simp only [List.getElem?_toArray, List.getElem?_cons_zero, List.getElem?_cons_succ] at z0 z1 z2
      rw [show lst a b c = (x, y, z) by rw [← HE.out]; unfold lst; rw [if_pos ⟨l1, l2⟩]]
      simp [bodyPost, results, Try.results49, go_sem, z0, z1, z2]
      exact bW
    · obtain ⟨r1, r2⟩ := lst_rot m1 m2 m3 hl
      have KT3 : Hid (Blk (((wr.setCell ⟨tb, 0, none⟩ (.int .i64 (y : Nat))).setCell ⟨tb, 1, none⟩ (.int .i64 (z : Nat))).setCell ⟨tb, 2, none⟩ (.int .i64 (x : Nat))) tb #[.int .i64 (y : Nat), .int .i64 (z : Nat), .int .i64 (x : Nat)] 36) := Lib.hid (KT.out.put3c (.int .i64 (y : Nat)) (.int .i64 (z : Nat)) (.int .i64 (x : Nat)))
      have KZ3 := Lib.hid (KZ.out.set3c (b := tb) (by omega) (.int .i64 (y : Nat)) (.int .i64 (z : Nat)) (.int .i64 (x : Nat)))
      have HW3 := Lib.hid (below_put3 HW.out hwt (.int .i64 (y : Nat)) (.int .i64 (z : Nat)) (.int .i64 (x : Nat)))
      have HE3 := Lib.hid (r1.trans HE.out)
      have hlt : lsM y z x < gk := by omega
      by_cases q1 : y < x
      · have q1' : (y : Int) < (x : Int) := by omega
        clear q1 hl r1 r2 HE KT KZ HW
        go_wp2_with fail
        go_roundg (lsM y z x)
        case measure => exact hlt
        case rel => exact ⟨y, z, x, m2, m3.symm, m1.symm, Nat.le_refl _, HE3, KT3, KZ3, HW3⟩
      · have q1' : ¬ ((y : Int) < (x : Int)) := by omega
        have q2' : (z : Int) < (x : Int) := by omega
        clear q1 hl r1 r2 HE KT KZ HW
        go_wp2_with fail
        go_roundg (lsM y z x)
        case measure => exact hlt
        case rel => exact ⟨y, z, x, m2, m3.symm, m1.symm, Nat.le_refl _, HE3, KT3, KZ3, HW3⟩
end Go.Proofs.Ytdlpfiiakmhnlaa

namespace Go.Proofs.Ytdlpfiiakmhnlaa
open Go.RowKit
attribute [local go_sem] undef

theorem info_tr : (Try.prog.info? 36).map (fun i => (i.zero, i.size, i.bytes)) = some (some (.agg #[.int .i64 0, .int .i64 0, .int .i64 0]), 3, 24) := by kernel_rfl
end Go.Proofs.Ytdlpfiiakmhnlaa

namespace Go.Proofs.Ytdlpfiiakmhnlaa
open Go.RowKit

/-- the sides put, and the hull around them -/
structure Brd (h : List Nat) (l : List Tri3) : Prop where
  way : ∀ i, i < h.length → gSd l (gH h i) (gH h ((i + 1) % h.length))
  rev : ∀ a b, gSd l a b → gSd l b a ∨ ∃ i, i < h.length ∧ a = gH h i ∧ b = gH h ((i + 1) % h.length)
theorem Sd_l {l l' : List Tri3} {a b : Nat} (h : gSd l a b) : gSd (l ++ l') a b := by
  obtain ⟨t, ht, s⟩ := h; exact ⟨t, List.mem_append_left _ ht, s⟩
theorem Sd_r {l l' : List Tri3} {a b : Nat} (h : gSd l' a b) : gSd (l ++ l') a b := by
  obtain ⟨t, ht, s⟩ := h; exact ⟨t, List.mem_append_right _ ht, s⟩
theorem begT_mem {b : List Nat} {q k : Nat} (hk : k < q - 1) : (gH b k, gH b (k + 1), q) ∈ begT b q := List.mem_iff_getElem?.2 ⟨k, begT_at b q k hk⟩
theorem addT_mem2 {h : List Nat} {p f j k : Nat} (hk : k < j) : (gH h ((f + k) % h.length), p, gH h ((f + (k + 1)) % h.length)) ∈ addT h p f j := by
  refine List.mem_iff_getElem?.2 ⟨k, ?_⟩
  rw [addT_at h p f j k hk]
  show some (_, _, gH h (((f + k) % h.length + 1) % h.length)) = _
  rw [Nat.mod_add_mod]; rfl
theorem beg_brd {b : List Nat} {q : Nat} (h2 : 2 ≤ q) (hb : b.length = q) : Brd (b ++ [q]) (begT b q) := by
  have ll : (b ++ [q]).length = q + 1 := by simp [hb]
  have gq : gH (b ++ [q]) q = q := by have := gH_app2 b q; rwa [hb] at this
  have gi : ∀ i, i < q → gH (b ++ [q]) i = gH b i := fun i hi => gH_app _ _ i (by omega)
  refine ⟨fun i hi => ?_, fun x y ⟨t, ht, s⟩ => ?_⟩
  · rw [ll] at hi ⊢
    rcases Nat.lt_or_ge i q with h | h
    · rw [Nat.mod_eq_of_lt (by omega), gi i h]
      rcases Nat.lt_or_ge (i + 1) q with h4 | h4
      · rw [gi _ h4]
        exact ⟨_, begT_mem (show i < q - 1 by omega), .inl ⟨rfl, rfl⟩⟩
      · rw [show i + 1 = q by omega, gq]
        exact ⟨_, begT_mem (show q - 2 < q - 1 by omega), .inr (.inl ⟨by rw [show q - 2 + 1 = i by omega], rfl⟩)⟩
    · rw [show i = q by omega, Nat.mod_self, gq, gi 0 (by omega)]
      exact ⟨_, begT_mem (show 0 < q - 1 by omega), .inr (.inr ⟨rfl, rfl⟩)⟩
  · obtain ⟨k, hk⟩ := List.mem_iff_getElem?.1 ht
    obtain ⟨hk, rfl⟩ := begT_get _ _ _ _ hk
    rcases s with ⟨e1, e2⟩ | ⟨e1, e2⟩ | ⟨e1, e2⟩ <;> simp only [] at e1 e2 <;> rw [e1, e2] <;> clear e1 e2
    · refine .inr ⟨k, by omega, (gi k (by omega)).symm, ?_⟩
      rw [ll, Nat.mod_eq_of_lt (by omega), gi _ (by omega)]
    · rcases Nat.lt_or_ge (k + 1) (q - 1) with h | h
      · exact .inl ⟨_, begT_mem h, .inr (.inr ⟨rfl, rfl⟩)⟩
      · refine .inr ⟨k + 1, by omega, (gi _ (by omega)).symm, ?_⟩
        rw [ll, Nat.mod_eq_of_lt (by omega), show k + 1 + 1 = q by omega, gq]
    · cases k with
      | zero =>
        refine .inr ⟨q, by omega, gq.symm, ?_⟩
        rw [ll, Nat.mod_self, gi 0 (by omega)]
      | succ k => exact .inl ⟨_, begT_mem (show k < q - 1 by omega), .inr (.inl ⟨rfl, rfl⟩)⟩
theorem Brd.next {h : List Nat} {l : List Tri3} (B : Brd h l) (h3 : 3 ≤ h.length) {p f j : Nat} (hf : f < h.length) (hj0 : 0 < j) (hj1 : j < h.length) : Brd (addH h p f j) (l ++ addT h p f j) := by
  have ml : ∀ k, k % h.length < h.length := fun k => Nat.mod_lt _ (by omega)
  have hl := addH_len (h := h) p f j
  have f0 : gH h f = gH h ((f + 0) % h.length) := by rw [show (f + 0) % h.length = f from Nat.mod_eq_of_lt hf]
  have nx2 : ∀ c, c < h.length - j → gH (addH h p f j) ((c + 2 + 1) % (addH h p f j).length) = gH h ((f + j + c + 1) % h.length) := fun c hc => by
    rcases Nat.lt_or_ge (c + 1) (h.length - j) with h4 | h4
    · rw [Nat.mod_eq_of_lt (by omega), show c + 2 + 1 = (c + 1) + 2 by omega, addH_2 _ _ _ _ h4, show f + j + (c + 1) = f + j + c + 1 by omega]
    · rw [show c + 2 + 1 = (addH h p f j).length by omega, Nat.mod_self, addH_0, show f + j + c + 1 = f + h.length by omega, Nat.add_mod_right, Nat.mod_eq_of_lt hf]
  refine ⟨fun i hi => ?_, fun x y s => ?_⟩
  · match i, hi with
    | 0, _ =>
      rw [show (0 + 1) % (addH h p f j).length = 1 from Nat.mod_eq_of_lt (by omega), addH_1, addH_0, f0]
      exact Sd_r ⟨_, addT_mem2 hj0, .inl ⟨rfl, rfl⟩⟩
    | 1, _ =>
      rw [show (1 + 1) % (addH h p f j).length = 0 + 2 from Nat.mod_eq_of_lt (by omega), addH_2 _ _ _ _ (by omega), addH_1]
      exact Sd_r ⟨_, addT_mem2 (show j - 1 < j by omega), .inr (.inl ⟨rfl, by rw [show f + (j - 1 + 1) = f + j + 0 by omega]⟩)⟩
    | c + 2, hi =>
      have hc : c < h.length - j := by omega
      rw [nx2 c hc, addH_2 _ _ _ _ hc]
      have := B.way ((f + j + c) % h.length) (ml _)
      rw [Nat.mod_add_mod] at this
      exact Sd_l this
  · rcases Sd_app s with s | ⟨t, ht, s⟩
    · rcases B.rev x y s with s | ⟨i, hi, rfl, rfl⟩
      · exact .inl (Sd_l s)
      · obtain ⟨k, hk, rfl⟩ : ∃ k, k < h.length ∧ i = (f + k) % h.length := by
          rcases Nat.lt_or_ge i f with h4 | h4
          · exact ⟨i + h.length - f, by omega, by rw [show f + (i + h.length - f) = i + h.length by omega, Nat.add_mod_right, Nat.mod_eq_of_lt hi]⟩
          · exact ⟨i - f, by omega, by rw [show f + (i - f) = i by omega, Nat.mod_eq_of_lt hi]⟩
        rw [Nat.mod_add_mod]
        rcases Nat.lt_or_ge k j with h4 | h4
        · exact .inl (Sd_r ⟨_, addT_mem2 h4, .inr (.inr ⟨rfl, rfl⟩)⟩)
        · refine .inr ⟨k - j + 2, by omega, ?_, ?_⟩
          · rw [addH_2 _ _ _ _ (by omega), show f + j + (k - j) = f + k by omega]
          · rw [nx2 _ (by omega), show f + j + (k - j) + 1 = f + k + 1 by omega]
    · obtain ⟨k, hk, rfl⟩ := addT_mem _ _ _ _ ht
      rcases s with ⟨e1, e2⟩ | ⟨e1, e2⟩ | ⟨e1, e2⟩ <;> simp only [] at e1 e2 <;> rw [e1, e2] <;> clear e1 e2
      · cases k with
        | zero =>
          refine .inr ⟨0, by omega, by rw [addH_0, f0], ?_⟩
          rw [show (0 + 1) % (addH h p f j).length = 1 from Nat.mod_eq_of_lt (by omega), addH_1]
        | succ k => exact .inl (Sd_r ⟨_, addT_mem2 (show k < j by omega), .inr (.inl ⟨rfl, rfl⟩)⟩)
      · rcases Nat.lt_or_ge (k + 1) j with h4 | h4
        · exact .inl (Sd_r ⟨_, addT_mem2 h4, .inl ⟨rfl, rfl⟩⟩)
        · refine .inr ⟨1, by omega, by rw [addH_1], ?_⟩
          rw [show (1 + 1) % (addH h p f j).length = 0 + 2 from Nat.mod_eq_of_lt (by omega), addH_2 _ _ _ _ (by omega), show f + (k + 1) = f + j + 0 by omega]
      · have := B.way ((f + k) % h.length) (ml _)
        rw [Nat.mod_add_mod] at this
        exact .inl (Sd_l this)
/-- what lies around, behind q + k points -/
theorem bld_brd {N q : Nat} {X Y : Nat → Int} (hg : allC N X Y = true) (hr : risC N X Y) (hl : isLn N X Y q) (hq : q < N) : ∀ k, q + k < N → Brd (bld X Y q k).1 (bld X Y q k).2 := by
  intro k
  have h2 : 2 ≤ q := by have := hl.1; omega
  induction k with
  | zero => intro _; exact beg_brd h2 (begH_len X Y q)
  | succ k ih =>
    intro hk
    have A := bld_add (sX_ris hg hr) (wy_gT hg) h2 hq (fun i h1 h2 => hl.2.2.1 i h1 h2) (hl.2.2.2 hq) k hk
    exact (ih (by omega)).next (bld_st hg hr hl hq k (by omega)).1.len A.f0 A.j0 A.j1
end Go.Proofs.Ytdlpfiiakmhnlaa

namespace Go.Proofs.Ytdlpfiiakmhnlaa
open Go.RowKit

/-- the next one around: the first end to which there is a side without a reverse -/
def nxtO (O : Nat → List (Nat × Nat)) (a : Nat) : Option Nat := ((O a).find? fun x => (lookH (O x.1) a).isNone).map (·.1)
structure HC (N : Nat) (O : Nat → List (Nat × Nat)) (H : List Nat) : Prop where
  pos : 0 < H.length
  len : H.length ≤ N
  zero : gH H 0 = 0
  nz : ∀ i, 0 < i → i < H.length → gH H i ≠ 0
  lt : ∀ i, i < H.length → gH H i < N
  nxt : ∀ i, i < H.length → nxtO O (gH H i) = some (gH H ((i + 1) % H.length))
theorem rep_mem {O : Nat → List (Nat × Nat)} {S : Nat → Nat → Prop} (h : RepS O S) {a : Nat} {x : Nat × Nat} (hx : x ∈ O a) : S a x.1 := by
  refine Classical.byContradiction fun hn => ?_
  exact lookH_absent ((h.2 a x.1).2 hn) x hx rfl
theorem rep_has {O : Nat → List (Nat × Nat)} {S : Nat → Nat → Prop} (h : RepS O S) {a b : Nat} (hs : S a b) : ∃ x, x ∈ O a ∧ x.1 = b := by
  refine Classical.byContradiction fun hn => ?_
  refine (h.2 a b).1 (lookH_none fun x hx he => hn ⟨x, hx, by omega⟩) hs
def rotH (h : List Nat) (z : Nat) : List Nat := (List.range h.length).map fun k => gH h ((z + k) % h.length)
theorem rotH_len (h : List Nat) (z : Nat) : (rotH h z).length = h.length := by unfold rotH; simp
theorem rotH_at {h : List Nat} {z k : Nat} (hk : k < h.length) : gH (rotH h z) k = gH h ((z + k) % h.length) := by
  show ((List.range h.length).map fun k => gH h ((z + k) % h.length)).getD k 0 = _
  rw [List.getD_eq_getElem?_getD, List.getElem?_map, List.getElem?_range hk]; rfl
theorem nxt_of {X Y : Nat → Int} {m : Nat} {h : List Nat} {l : List Tri3} {O : Nat → List (Nat × Nat)} (H : Hul X Y m h) (B : Bnd m h l) (R : Brd h l) (hO : RepS O (gSd l)) {i : Nat} (hi : i < h.length) : nxtO O (gH h i) = some (gH h ((i + 1) % h.length)) := by
  obtain ⟨x0, hm, he⟩ := rep_has hO (R.way i hi)
  have hp : (lookH (O x0.1) (gH h i : Nat)).isNone = true := by
    rw [he, (hO.2 _ _).2 (B.new i hi)]; rfl
  unfold nxtO
  cases hf : (O (gH h i)).find? fun x => (lookH (O x.1) (gH h i : Nat)).isNone with
  | none => exact absurd hp (by rw [List.find?_eq_none] at hf; exact hf x0 hm)
  | some y =>
    have hy := List.find?_some hf
    have hym := List.mem_of_find?_eq_some hf
    have s1 := rep_mem hO hym
    have s2 : ¬ gSd l y.1 (gH h i) := (hO.2 _ _).1 (by rw [Option.isNone_iff_eq_none] at hy; exact hy)
    rcases R.rev _ _ s1 with s3 | ⟨i', hi', e1, e2⟩
    · exact absurd s3 s2
    · have := H.nd _ _ hi hi' e1
      subst this
      show some y.1 = _
      rw [e2]
theorem hc_of {X Y : Nat → Int} {N m : Nat} {h : List Nat} {l : List Tri3} {O : Nat → List (Nat × Nat)} (H : Hul X Y m h) (B : Bnd m h l) (R : Brd h l) (hO : RepS O (gSd l)) (hN : N = m + 1) : ∃ z, z < h.length ∧ gH h z = 0 ∧ HC N O (rotH h z) := by
  obtain ⟨z, hz, hz0⟩ := H.zero
  have h3 := H.len
  have ml : ∀ k, k % h.length < h.length := fun k => Nat.mod_lt _ (by omega)
  have hl := rotH_len h z
  refine ⟨z, hz, hz0, by omega, by have := B.hln; omega, ?_, fun i h0 hi => ?_, fun i hi => ?_, fun i hi => ?_⟩
  · rw [rotH_at (by omega), Nat.add_zero, Nat.mod_eq_of_lt hz, hz0]
  · rw [hl] at hi
    rw [rotH_at hi]
    intro e
    have := H.nd _ _ (ml _) hz (e.trans hz0.symm)
    have h5 : i = 0 := g_mod_inj (f := z) hi (by omega) (by rw [this, Nat.add_zero, Nat.mod_eq_of_lt hz])
    omega
  · rw [hl] at hi
    rw [rotH_at hi]
    have := H.le _ (ml (z + i)); omega
  · rw [hl] at hi ⊢
    rw [rotH_at hi, rotH_at (ml _), nxt_of H B R hO (ml _), Nat.mod_add_mod]
    congr 2
    rw [show z + i + 1 = z + (i + 1) by omega, Nat.add_mod_mod]
end Go.Proofs.Ytdlpfiiakmhnlaa

namespace Go.Proofs.Ytdlpfiiakmhnlaa
open Go.RowKit Go.Shelf
attribute [local go_sem] Oper.semAt_some undef

theorem stepR_scope {P : Program} {b : Frame} {a : Act} {k : List Item} {cs : List Frame} {w : World} {c : Code} : step P (lone (b.atR a (.code (.scope c) :: k)) cs w) = .next (lone (b.atR a (.code c :: .inScope c :: k)) cs w) :=
  step_lone_go (by simp [stepG, stepG.exec, Frame.atR])
theorem stepR_inScope {P : Program} {b : Frame} {a : Act} {k : List Item} {cs : List Frame} {w : World} {c : Code} : step P (lone (b.atR a (.inScope c :: k)) cs w) = .next (lone (b.atR a k) cs w) :=
  step_lone_go (by simp [stepG, stepG.exec, Frame.atR])
theorem wpIn_scope {F : Fence} {n : Nat} {P : Program} {Q : Exit → Act → World → Prop} {a : Act} {w : World} {c : Code} (h : c.wpIn F n P (Exit.noGoto Q) a w) : (Code.scope c).wpIn F n P Q a w := by
  intro b k cs hro hb hr
  have h0 : (lone (b.atR a (.code (.scope c) :: k)) cs w).fenced P F := fenced_calm hb hr rfl
  obtain ⟨e, a₁, w₁, hq, harr⟩ := h b (.inScope c :: k) cs hro hb hr
  cases e with
  | normal => exact ⟨.normal, a₁, w₁, hq, .head h0 stepR_scope (StepsIn.trans harr (.one (fenced_calm hb hr rfl) stepR_inScope))⟩
  | exit id =>
    have hx : exitTo id (.inScope c :: k) = exitTo id k := by simp [exitTo]
    exact ⟨.exit id, a₁, w₁, hq, fun k' hk => .head h0 stepR_scope (harr.1 k' (by rw [hx]; exact hk)),
      fun hr' hk => let ⟨k₁, h1, h2⟩ := harr.2 hr' (by rw [hx]; exact hk); ⟨k₁, h1, .head h0 stepR_scope h2⟩⟩
  | goto l => exact hq.elim
  | ret => exact ⟨_, a₁, w₁, hq, .of_steps (.one h0 stepR_scope) harr⟩
  | panic ch => exact ⟨_, a₁, w₁, hq, .of_steps (.one h0 stepR_scope) harr⟩
  | outgrown => exact ⟨_, a₁, w₁, hq, .of_steps (.one h0 stepR_scope) harr⟩
theorem wpListIn_append_nl {F : Fence} {nF : Nat} {w : World} {ops : Array Oper} {rest : List Oper} {o : Oper} {a : Act} {Q : Exit → Act → World → Prop} (hgd : o.guard = none) (s x : Operand)
    (ho : o.op = .call { callee := .builtin .append, args := #[s, x], argTypes := #[29, 29] })
    (base : Nat) (v : Value) (L : List Nat) (y : Nat) (vb : Nat) (hs : a.eval s = v) (hx : a.eval x = .slice (some ⟨vb, 0, none⟩) 1 1) (hb : Blk w vb #[.int .i64 (y : Nat)] 3)
    (hnl : NL w base v L) (hL : L.length < 100000) (hbase : base ≤ w.heap.size)
    (h : ∀ ao n cap w', n = L.length + 1 → NL w' base (.slice ao n cap) (L ++ [y]) → w.grownBy w' v.ownBlock → wpListIn F nF Try.prog ops Q rest (a.put o.dst (.slice ao n cap)) w') : wpListIn F nF Try.prog ops Q (o :: rest) a w := by
  obtain ⟨i0, hi, hz0, hz1, hz2⟩ := info_parts info_int
  refine wpListIn_append_own_at _ hgd s x 29 ho base 3 i0 (.int .i64 0) 1 8 Try.underlying29 hi hz0 hz1 hz2 rfl (by decide) v L.length _ hs hnl ⟨vb, 0, none⟩ 1 1 [.int .i64 y] hx rfl (int_src hb) (int_one _) (by unfold maxLen; omega) (by omega) hbase ?_
  intro v' w' own gr _ _
  have hn : NL w' base v' (L ++ [y]) := by
    unfold NL
    rw [List.length_append, List.map_append]; exact own
  obtain ⟨ao, cap, rfl, _⟩ := hn.val
  exact h ao _ cap w' (by simp) hn gr
theorem NL.low2 {w : World} {base base' : Nat} {v : Value} {L : List Nat} (h : NL w base v L) (hb : base' ≤ base) : NL w base' v L := by
  refine ⟨h.1, h.2.imp id ?_⟩
  rintro ⟨g, cap, cur, e, hbg, r⟩
  exact ⟨g, cap, cur, e, by omega, r⟩
theorem NL.own {w : World} {base : Nat} {v : Value} {L : List Nat} (h : NL w base v L) {g : Nat} (hg : v.ownBlock = some g) : base ≤ g ∧ g < w.heap.size := World.ownsRow.lt h g hg
theorem Marks.grown {y : Nat} {w w' : World} {v : Value} {base : Nat} {L : List Nat} (hn : NL w base v L) (hg : w.grownBy w' v.ownBlock) : ∀ {ds : List Deferred}, Marks y w ds → Marks y w' ds := by
  intro ds
  induction ds with
  | nil => intro _; trivial
  | cons d ds ih =>
    rintro ⟨⟨r, h1, h2, h3, h4⟩, h5⟩
    refine ⟨⟨r, h1, h2, (hg.block r (Array.getElem?_eq_some_iff.1 h3).1 fun e => ?_).trans h3, h4⟩, ih h5⟩
    obtain ⟨cur, hc, _⟩ := hn.typ e.symm
    rw [h3] at hc; cases hc
theorem NL.keep {w w' : World} {base : Nat} {v : Value} {L : List Nat} (h : NL w base v L) (hb : ∀ g, v.ownBlock = some g → w'.heap[g]? = w.heap[g]?) : NL w' base v L := by
  refine ⟨h.1, h.2.imp id ?_⟩
  rintro ⟨g, cap, cur, rfl, hbg, hg, r⟩
  exact ⟨g, cap, cur, rfl, hbg, (hb g rfl).trans hg, r⟩
theorem Marks.own {y : Nat} {w : World} {v : Value} {base : Nat} {L : List Nat} (hn : NL w base v L) : ∀ {ds : List Deferred}, Marks y w ds → ∀ d, d ∈ ds → ∀ r, d.target = .collected r → v.ownBlock ≠ some r := by
  intro ds
  induction ds with
  | nil => intro _ d hd; cases hd
  | cons d ds ih =>
    rintro ⟨⟨r, h1, h2, h3, h4⟩, h5⟩ d' hd' r' hr' e
    rcases List.mem_cons.1 hd' with rfl | hd'
    · rw [h1] at hr'
      injection hr' with hr'
      subst hr'
      obtain ⟨cur, hc, _⟩ := hn.typ e
      rw [h3] at hc; cases hc
    · exact ih h5 d' hd' r' hr' e
theorem nxtO_at {O : Nat → List (Nat × Nat)} {a k : Nat} {x : Nat × Nat} (hx : (O a)[k]? = some x) (hb : ∀ j y, j < k → (O a)[j]? = some y → lookH (O y.1) (a : Nat) ≠ none) (hn : lookH (O x.1) (a : Nat) = none) : nxtO O a = some x.1 := by
  unfold nxtO
  have : (O a).find? (fun x => (lookH (O x.1) a).isNone) = some x := by
    rw [List.find?_eq_some_iff_getElem]
    obtain ⟨hk, hxe⟩ := List.getElem?_eq_some_iff.1 hx
    refine ⟨by rw [hn]; rfl, k, hk, hxe, fun j hj => ?_⟩
    have := hb j _ hj (List.getElem?_eq_getElem (by omega))
    cases h : lookH (O ((O a)[j]).1) (a : Nat) with
    | none => exact absurd h this
    | some z => simp
  rw [this]; rfl
theorem nxtO_end {O : Nat → List (Nat × Nat)} {a : Nat} (hb : ∀ j y, j < (O a).length → (O a)[j]? = some y → lookH (O y.1) (a : Nat) ≠ none) : nxtO O a = none := by
  unfold nxtO
  rw [Option.map_eq_none_iff, List.find?_eq_none]
  intro y hy
  obtain ⟨j, hj, e⟩ := List.getElem_of_mem hy
  have := hb j y hj (by rw [List.getElem?_eq_getElem hj, e])
  cases h : lookH (O y.1) (a : Nat) with
  | none => exact absurd h this
  | some z => simp
theorem gH_take {H : List Nat} {k : Nat} (hk : k < H.length) : H.take (k + 1) = H.take k ++ [gH H k] := by
  rw [List.take_add_one, gH_at hk]; rfl
set_option maxRecDepth 100000 in
set_option maxHeartbeats 4000000 in
theorem Hull_is (t : Nat) (D : SD) (N : Nat) (X Y : Nat → Int) (O : Nat → List (Nat × Nat)) (n : Int) (H : List Nat) (hH : HC N O H) (hn : n ≠ 0) (w : World) (h : SM w t D N X Y O n) :
    Calls Try.prog 13 #[ptr t 0] w fun e w' => ∃ v, e = .returned v ∧ NL w' w.heap.size v H ∧ Below w.heap.size w w' := by
  have HS := Lib.hid h
  have HH := Lib.hid hH
  have hpos := hH.pos
  have hlen := hH.len
  obtain ⟨c0, c1, c2⟩ := h.c
  have hsm := h.small
  have hzt := h.blk.lt
  clear h hH
  refine (callsIn_wide (n := 3)).1 ?_
  refine callsIn_of_wp_marks Try.func13 rfl trivial ?_ rfl
  simp only [Try.ntmps13, List.size_toArray, List.length_cons, List.length_nil, Nat.reduceAdd, Nat.reduceSub, Array.replicate_succ, Array.replicate_zero, List.push_toArray, List.append_toArray, List.nil_append, List.cons_append]
  have hn0 : (n == 0) = false := by simpa using hn
  gi_wp2_with fail
  refine wpIn_scope ?_
  gi_wp2_with fail
  refine wpIn_label ?_
  gi_wp2_with fail
  refine nameIn ?_
  intro V hV
  obtain ⟨y0, ey0⟩ : ∃ y, w.heap.size = y := ⟨_, rfl⟩
  obtain ⟨y, ey⟩ : ∃ y, w.heap.size + 1 = y := ⟨_, rfl⟩
  have hy01 : y0 < y := by omega
  have hbV : Below w.heap.size w V := by rw [hV]; exact below_a2 _ _ _
  have K0 : Hid (Blk V y0 #[ptr t 0] 25) := by rw [hV, ← ey0]; exact Lib.hid ((Blk.new w _ _).alloc _)
  have K1 : Hid (Blk V y #[.int .i64 (gH H 0 : Nat)] 3) := by rw [hV, ← ey, HH.out.zero]; exact Lib.hid (Blk.new1 w _ _ _)
  have hVs : V.heap.size = y + 1 := by rw [hV]; simp; omega
  have BV := Lib.hid hbV
  obtain ⟨len, hl⟩ : ∃ l, H.length = l := ⟨_, rfl⟩
  have HLN := Lib.hid hl
  rw [hl] at hpos hlen
  rw [ey, ey0]
  have hz0 : w.heap.size = y0 := ey0
  clear hV hbV hl c0 c1 c2 ey
  refine wpIn_loop_ghost_k (fun gk act wr => ∃ (u5 u6 u7 u8 u9 u10 u11 u12 u13 u14 u15 u16 u17 u18 u19 u20 u21 u22 u23 u24 u25 u26 u27 u28 u29 u30 u31 u32 u33 u34 u35 u36 u37 u38 u39 u40 u41 u42 u43 u44 u45 u46 u47 u48 u49 : Value) (ds : List Deferred) (k : Nat) (ho : Option Addr) (hc a : Nat), (k ≤ len ∧ len - k ≤ gk ∧ (k = len → a = 0) ∧ (0 < k → k < len → a ≠ 0) ∧ Hid (a = gH H (k % len)) ∧ Hid (NL wr (y + 1) (.slice ho k hc) (H.take k)) ∧ Hid (Below w.heap.size w wr) ∧ Hid (Blk wr y0 #[ptr t 0] 25) ∧ Hid (Blk wr y #[.int .i64 (a : Nat)] 3) ∧ y + 1 ≤ wr.heap.size ∧ Hid (Marks y wr ds)) ∧ act = { tmps := #[ptr t 0, ptr y0 0, .slice none 0 0, .slice ho k hc, ptr y 0, u5, u6, u7, u8, u9, u10, u11, u12, u13, u14, u15, u16, u17, u18, u19, u20, u21, u22, u23, u24, u25, u26, u27, u28, u29, u30, u31, u32, u33, u34, u35, u36, u37, u38, u39, u40, u41, u42, u43, u44, u45, u46, u47, u48, u49], defers := ds }) len ⟨_, _, _, _, _, _, _, _, _, _, _, _, _, _, _, _, _, _, _, _, _, _, _, _, _, _, _, _, _, _, _, _, _, _, _, _, _, _, _, _, _, _, _, _, _, [], 0, none, 0, 0, ⟨Nat.zero_le _, Nat.le_refl _, fun _ => rfl, fun h => by omega, Lib.hid (by rw [Nat.zero_mod]; exact HH.out.zero.symm), Lib.hid NL.none, BV, K0, by rw [HH.out.zero] at K1; exact K1, by omega, Lib.hid trivial⟩, rfl⟩ ?_
  intro gk act wr hinv J K hJ hK
  obtain ⟨u5, u6, u7, u8, u9, u10, u11, u12, u13, u14, u15, u16, u17, u18, u19, u20, u21, u22, u23, u24, u25, u26, u27, u28, u29, u30, u31, u32, u33, u34, u35, u36, u37, u38, u39, u40, u41, u42, u43, u44, u45, u46, u47, u48, u49, ds, k, ho, hc, a, ⟨hk, hgk, ha0, han, HA, HNL, HB, HK0, HK1, hyw, HM⟩, rfl⟩ := hinv
  clear K0 K1 BV hVs
  have b0 := HK0.out.cell 0
  have b1 := HK1.out.cell 0
  simp only [List.getElem?_toArray, List.getElem?_cons_zero] at b0 b1
  obtain ⟨c0, c1, c2⟩ := (HS.out.of HB.out).c
  by_cases hlt : k < len
  · have haN : a < N := by rw [HA.out, Nat.mod_eq_of_lt hlt]; exact HH.out.lt k (by rw [HLN.out]; exact hlt)
    have hnx : nxtO O a = some (gH H ((k + 1) % len)) := by
      have := HH.out.nxt k (by rw [HLN.out]; exact hlt)
      rw [HLN.out] at this
      rw [HA.out, Nat.mod_eq_of_lt hlt]; exact this
    have HNX := Lib.hid hnx
    clear hnx
    have hzb := HB.out.size
    rcases Nat.eq_zero_or_pos k with hk0 | hk0
    · subst hk0
      have hq1 : (H.take 0).length < 100000 := by rw [List.length_take]; omega
      have hq2 : y + 1 ≤ (wr.alloc (.cells #[.int .i64 (a : Nat)] 3)).heap.size := by simp; omega
      gi_wp2_with (gi_at_builtin; go_loud (refine wpListIn_append_nl rfl _ _ rfl (y + 1) (.slice ho 0 hc) (H.take 0) a wr.heap.size rfl rfl (Blk.new wr _ _) (HNL.out.of (below_a1 _ _)) hq1 hq2 ?_))
      intro ho2 m2 hc2 V1 hm2 nl2 gr2
      have hva : (wr.alloc (.cells #[.int .i64 (a : Nat)] 3)).heap.size = wr.heap.size + 1 := by simp
      have hoy : ∀ g, (Value.slice ho 0 hc).ownBlock = some g → y + 1 ≤ g := fun g hg => (HNL.out.own hg).1
      have hV1 : ∀ g, g < wr.heap.size → (Value.slice ho 0 hc).ownBlock ≠ some g → V1.heap[g]? = wr.heap[g]? := fun g h1 h2 => (gr2.block g (by omega) (fun e => h2 e.symm)).trans ((below_a1 wr _).block g h1)
      have hss : wr.heap.size + 1 ≤ V1.heap.size := by have := gr2.size; omega
      have B1 : Below w.heap.size w V1 := HB.out.trans ⟨gr2.os, gr2.tape, gr2.output, by omega, fun g hg => hV1 g (by omega) (fun e => by have := hoy g e; omega)⟩
      have k0 : Blk V1 y0 #[ptr t 0] 25 := (hV1 y0 (by omega) (fun e => by have := hoy _ e; omega)).trans HK0.out
      have k1 : Blk V1 y #[.int .i64 (a : Nat)] 3 := (hV1 y (by omega) (fun e => by have := hoy _ e; omega)).trans HK1.out
      have hM1 : Marks y V1 ds := ((HM.out.keep fun r _ h2 => (below_a1 wr (.cells #[.int .i64 (a : Nat)] 3)).block r h2).grown (HNL.out.of (below_a1 wr _)) gr2)
      have hm3 : m2 = 0 + 1 := by first | (rw [hm2, List.length_take]; omega) | (have := HLN.out; omega)
      have nl3 : NL V1 (y + 1) (.slice ho2 (0 + 1) hc2) (H.take (0 + 1)) := by
        rw [gH_take (by rw [HLN.out]; exact hlt), ← hm3]
        have e : gH H 0 = a := by rw [HA.out, Nat.mod_eq_of_lt hlt]
        rw [e]; exact nl2
      subst hm3
      have BB := Lib.hid B1
      have K0 := Lib.hid k0
      have K1 := Lib.hid k1
      have HM1 := Lib.hid hM1
      have NL3 := Lib.hid nl3
      have hy1 : y + 1 ≤ V1.heap.size := by omega
      have d0 := k0.cell 0
      have d1 := k1.cell 0
      simp only [List.getElem?_toArray, List.getElem?_cons_zero] at d0 d1
      clear hva hoy hV1 hss B1 k0 k1 hM1 hm2 nl2 nl3 gr2 HNL HK0 HK1 HB HM b0 b1 c0 c1 c2 hq1 hq2
      gi_wp2_with fail
      refine ⟨trivial, callsIn_wide.2 ?_⟩
      refine (Around_is t a V1).mono ?_
      rintro e V2 ⟨rfl, kcs, kca, hb2⟩
      obtain ⟨cs, ecs⟩ : ∃ b, V1.heap.size = b := ⟨_, rfl⟩
      obtain ⟨ca, eca⟩ : ∃ b, V1.heap.size + 1 = b := ⟨_, rfl⟩
      have o3 : cs < ca := by omega
      have o4 : ca < V2.heap.size := by have := kca.lt; omega
      have o5 : y < cs := by omega
      have SM2 := Lib.hid (HS.out.of (BB.out.trans (hb2.mono BB.out.size)))
      have BB2 := Lib.hid (BB.out.trans (hb2.mono BB.out.size))
      have KS2 := Lib.hid (K0.out.of hb2)
      have KA2 := Lib.hid (K1.out.of hb2)
      have NL2 := Lib.hid (NL3.out.of hb2)
      have HM2 : Hid (Marks y V2 ds) := Lib.hid (HM1.out.keep fun r _ h2 => hb2.block r h2)
      have hy0w : y0 < V2.heap.size := by omega
      rw [eca] at kca ⊢
      rw [ecs] at kcs ⊢
      have KC := Lib.hid (And.intro kcs kca)
      clear kcs kca hb2 BB K0 K1 NL3 HM1 d0 d1 ecs eca
      gi_wp2_with fail
      obtain ⟨z, hz⟩ : ∃ z, gH H ((0 + 1) % len) = z := ⟨_, rfl⟩
      have HZ := Lib.hid hz
      rw [hz] at HNX
      obtain ⟨lr, hlr⟩ : ∃ l, (O a).length = l := ⟨_, rfl⟩
      have HLR := Lib.hid hlr
      have hrow : rowO N O (a : Int) = O a := by unfold rowO; rw [if_pos (by omega)]; rfl
      have hT := Around1_tells cs ca t D N X Y O n a (O a) hrow (V2.heap.size + 2)
      rw [hlr] at hT
      clear hlr hrow hz
      refine wpIn_rangeX (m := 1) (gf := 67) (lb := #[ptr cs 0, ptr ca 0]) (N := lr) (encs := arE (O a)) (Kp := fun W => Blk W cs #[ptr t 0] 25 ∧ Blk W ca #[.int .i64 (a : Nat)] 3 ∧ SM W t D N X Y O n) rfl (fun args w => by go_simp) hT (fun _ => rfl)
        (fun G j W => (∀ g, ¬ G g) ∧ Below V2.heap.size V2 W ∧ ∀ i x, i < j → (O a)[i]? = some x → lookH (O x.1) (a : Nat) ≠ none)
        (fun c j W => c = .exit 1 ∧ Fr V2 W (fun b => b = y) ∧ Blk W y #[.int .i64 (z : Nat)] 3) ?hg ?stable ?xstable ?keeps ?start ?round ?done ?stop
      case hg => rintro G j W ⟨j1, _⟩ g hg; exact absurd hg (j1 g)
      case stable => rintro G j W W' ⟨j1, j2, j3⟩ ⟨hbl, _⟩; exact ⟨j1, j2.trans hbl, j3⟩
      case xstable =>
        rintro c j W W' ⟨j1, j2, j3⟩ hbl
        exact ⟨j1, j2.trans (S' := fun b => V2.heap.size ≤ b) ⟨hbl.os, hbl.tape, hbl.output, hbl.size, fun k _ hk => hbl.block k (by omega)⟩ (fun _ h => .inr h), j3.below hbl (by omega)⟩
      case keeps =>
        rintro G j W ⟨j1, j2, j3⟩
        exact ⟨KC.out.1.of j2, KC.out.2.of j2, SM2.out.of j2⟩
      case start => exact ⟨fun g h => h, Below.refl _ _, fun i x hi => by omega⟩
      case round =>
        rintro l2 D2 j G W2 hj ⟨j1, j2, j3⟩ g1 g2 g3 g4
        obtain ⟨x, hx⟩ : ∃ x, (O a)[j]? = some x := ⟨_, List.getElem?_eq_getElem (show j < (O a).length by rw [HLR.out]; exact hj)⟩
        have hE : arE (O a) j = #[.int .i64 x.1, .int .i64 x.2] := by unfold arE; rw [List.getD_eq_getElem?_getD, hx]; rfl
        rw [hE]
        obtain ⟨xb, xc⟩ := x
        have HX := Lib.hid hx
        have J1 := Lib.hid j1
        have J2 := Lib.hid j2
        have J3 := Lib.hid j3
        clear j1 j2 j3 hx hE hT
        gi_wp2_with fail
        refine ⟨⟨Fix2.of (OutL.refl [] _) g3 g4 (by simp) (by simp), AboveX.refl _ _ _⟩, ?_⟩
        intro W3 hW3
        have hs3 := hW3.size
        have B3 := Lib.hid (J2.out.trans (hW3.below (B := V2.heap.size) (by omega) (by simp; omega)))
        have q0 := (KS2.out.of B3.out).cell 0
        have q1 := (KA2.out.of B3.out).cell 0
        simp only [List.getElem?_toArray, List.getElem?_cons_zero] at q0 q1
        gi_wp2_with fail
        refine ⟨trivial, CallsIn.inRound l2 (callsIn_wide.2 ?_)⟩
        have hxd := (HS.out.dom a haN _ (List.mem_iff_getElem?.2 ⟨j, HX.out⟩)).1
        have hlo : leftO N O (xb : Int) (a : Int) = lookH (O xb) (a : Nat) := by unfold leftO; rw [if_pos (by simp only [] at hxd; omega)]; rfl
        obtain ⟨R, hR⟩ : ∃ R, lookH (O xb) (a : Nat) = R := ⟨_, rfl⟩
        have HR := Lib.hid hR
        refine (Left_is t D N X Y O n xb a W3 (SM2.out.of B3.out) R (hlo.trans hR)).mono ?_
        rintro e W4 ⟨rfl, hb4⟩
        have hs4 := hb4.size
        have B4 := Lib.hid (B3.out.trans (hb4.mono B3.out.size))
        have X34 := Lib.hid hb4
        have k1 := KA2.out.of B4.out
        have r1 := k1.cell 0
        have f1 := k1.free 0
        have l1 := k1.lt
        simp only [List.getElem?_toArray, List.getElem?_cons_zero] at r1
        have K1 := Lib.hid k1
        have hsz3 : V2.heap.size ≤ W3.heap.size := B3.out.size
        clear hxd hlo hR q0 q1 k1 hb4 B3
        cases R with
        | some c =>
          have GG : Hid ((Fix2 l2 D2 W3 W4 ∧ ∃ G' : Nat → Prop, (∀ g, G' g → G g ∨ W3.heap.size ≤ g) ∧ (∀ g, ¬ G' g) ∧ Below V2.heap.size V2 W4 ∧ ∀ i x, i < j + 1 → (O a)[i]? = some x → lookH (O x.1) (a : Nat) ≠ none) ∧ AboveX (V2.heap.size + 2) G W3 W4) := by
            refine Lib.hid ⟨⟨⟨X34.out.block l2 (by omega), X34.out.block D2 (by omega)⟩, fun _ => False, fun g h => h.elim, fun g h => h, B4.out, fun i x hi hx => ?_⟩, ⟨hs4, fun k _ hk _ => X34.out.block k hk⟩⟩
            rcases Nat.lt_or_ge i j with h | h
            · exact J3.out i x h hx
            · have : i = j := by omega
              subst this
              rw [HX.out] at hx
              injection hx with hx
              subst hx
              intro e
              have := HR.out
              rw [e] at this; cases this
          clear r1 f1 l1 hs4
          gi_wp2
          exact GG.out
        | none =>
          have hzx : z = xb := by
            have := nxtO_at HX.out J3.out HR.out
            rw [HNX.out] at this
            injection this
          have GG : Hid ((Fix2 l2 D2 W3 (W4.setCell ⟨y, 0, none⟩ (.int .i64 (xb : Nat))) ∧ Fr V2 (W4.setCell ⟨y, 0, none⟩ (.int .i64 (xb : Nat))) (fun b => b = y) ∧ Blk (W4.setCell ⟨y, 0, none⟩ (.int .i64 (xb : Nat))) y #[.int .i64 (z : Nat)] 3) ∧ AboveX (V2.heap.size + 2) G W3 (W4.setCell ⟨y, 0, none⟩ (.int .i64 (xb : Nat)))) := by
            have hst : ∀ g, g ≠ y → (W4.setCell ⟨y, 0, none⟩ (.int .i64 (xb : Nat))).heap[g]? = W4.heap[g]? := fun g h => Below.heap_setCell W4 ⟨y, 0, none⟩ (.int .i64 (xb : Nat)) g h
            have hsf : (W4.setCell ⟨y, 0, none⟩ (.int .i64 (xb : Nat))).heap.size = W4.heap.size := by simp [World.setCell]
            refine Lib.hid ⟨⟨⟨(hst l2 (by omega)).trans (X34.out.block l2 (by omega)), (hst D2 (by omega)).trans (X34.out.block D2 (by omega))⟩, ⟨B4.out.os, B4.out.tape, B4.out.output, by rw [hsf]; exact B4.out.size, fun k hk hn => (hst k hn).trans (B4.out.block k hk)⟩, ?_⟩, ⟨by rw [hsf]; exact hs4, fun k h1 hk _ => (hst k (by omega)).trans (X34.out.block k hk)⟩⟩
            rw [hzx]; exact K1.out.put 0 (.int .i64 (xb : Nat))
          clear hs4 hzx
          gi_wp2
          exact ⟨⟨GG.out.1.1, rfl, GG.out.1.2⟩, GG.out.2⟩
      case done =>
        rintro Dd G V5 g1 ⟨j1, j2, j3⟩ hD
        have := nxtO_end (a := a) (O := O) (fun i y hi => j3 i y (by rw [← HLR.out]; exact hi))
        rw [HNX.out] at this
        cases this
      case stop =>
        rintro Dd c k' V5 g1 ⟨rfl, j2, j3⟩ hD
        have hst : Hid (0 + 1 ≤ len ∧ (0 + 1 = len → z = 0) ∧ (0 < 0 + 1 → 0 + 1 < len → z ≠ 0) ∧ z = gH H ((0 + 1) % len)) := by
          refine Lib.hid ⟨hlt, fun h => ?_, fun _ h => ?_, HZ.out.symm⟩
          · rw [← HZ.out, h, Nat.mod_self]; exact HH.out.zero
          · rw [← HZ.out, Nat.mod_eq_of_lt h]; exact HH.out.nz _ (by omega) (by rw [HLN.out]; exact h)
        have F1 := Lib.hid (BB2.out.trans (j2.below (B := w.heap.size) BB2.out.size (fun k h => by omega)))
        have F2 := Lib.hid (j2.blk KS2.out (by omega))
        have F3 := Lib.hid j3
        have F4 : Hid (NL V5 (y + 1) (.slice ho2 (0 + 1) hc2) (H.take (0 + 1))) := Lib.hid (NL2.out.keep fun g hg => j2.block g (NL2.out.own hg).2 (by have := (NL2.out.own hg).1; omega))
        have F5 : Hid (Marks y V5 ({ target := .collected Dd, args := #[] } :: ds)) := Lib.hid ⟨⟨Dd, rfl, by omega, hD, fun d hd r hr => by have := HM2.out.lt d hd r hr; omega⟩, HM2.out.keep fun r h1 h2 => j2.block r h2 (by omega)⟩
        have hs5 := j2.size
        have hy5 : y + 1 ≤ V5.heap.size := by omega
        have hms : len - (0 + 1) < gk := by omega
        clear j2 j3 hD hT BB2 KS2 KA2 NL2 HM2 KC
        gi_wp2_with fail
        exact ⟨len - (0 + 1), hms, hJ _ _ _ ⟨_, _, _, _, _, _, _, _, _, _, _, _, _, _, _, _, _, _, _, _, _, _, _, _, _, _, _, _, _, _, _, _, _, _, _, _, _, _, _, _, _, _, _, _, _, _ , 0 + 1, ho2, hc2, z, ⟨hst.out.1, Nat.le_refl _, hst.out.2.1, hst.out.2.2.1, Lib.hid hst.out.2.2.2, F4, F1, F2, F3, hy5, F5⟩, rfl⟩⟩
    · have hk1 : ¬ k = 0 := by omega
      have hk2 : ¬ a = 0 := han hk0 hlt
      have hk4 : ((k : Int) == 0) = false := by simp; omega
      have hk5 : ((a : Int) != 0) = true := by simp; omega
      have hk3 : (k : Int) < (N : Int) := by omega
      clear hk0
      have hq1 : (H.take k).length < 100000 := by rw [List.length_take]; omega
      have hq2 : y + 1 ≤ (wr.alloc (.cells #[.int .i64 (a : Nat)] 3)).heap.size := by simp; omega
      gi_wp2_with (gi_at_builtin; go_loud (refine wpListIn_append_nl rfl _ _ rfl (y + 1) (.slice ho k hc) (H.take k) a wr.heap.size rfl rfl (Blk.new wr _ _) (HNL.out.of (below_a1 _ _)) hq1 hq2 ?_))
      intro ho2 m2 hc2 V1 hm2 nl2 gr2
      have hva : (wr.alloc (.cells #[.int .i64 (a : Nat)] 3)).heap.size = wr.heap.size + 1 := by simp
      have hoy : ∀ g, (Value.slice ho k hc).ownBlock = some g → y + 1 ≤ g := fun g hg => (HNL.out.own hg).1
      have hV1 : ∀ g, g < wr.heap.size → (Value.slice ho k hc).ownBlock ≠ some g → V1.heap[g]? = wr.heap[g]? := fun g h1 h2 => (gr2.block g (by omega) (fun e => h2 e.symm)).trans ((below_a1 wr _).block g h1)
      have hss : wr.heap.size + 1 ≤ V1.heap.size := by have := gr2.size; omega
      have B1 : Below w.heap.size w V1 := HB.out.trans ⟨gr2.os, gr2.tape, gr2.output, by omega, fun g hg => hV1 g (by omega) (fun e => by have := hoy g e; omega)⟩
      have k0 : Blk V1 y0 #[ptr t 0] 25 := (hV1 y0 (by omega) (fun e => by have := hoy _ e; omega)).trans HK0.out
      have k1 : Blk V1 y #[.int .i64 (a : Nat)] 3 := (hV1 y (by omega) (fun e => by have := hoy _ e; omega)).trans HK1.out
      have hM1 : Marks y V1 ds := ((HM.out.keep fun r _ h2 => (below_a1 wr (.cells #[.int .i64 (a : Nat)] 3)).block r h2).grown (HNL.out.of (below_a1 wr _)) gr2)
      have hm3 : m2 = k + 1 := by first | (rw [hm2, List.length_take]; omega) | (have := HLN.out; omega)
      have nl3 : NL V1 (y + 1) (.slice ho2 (k + 1) hc2) (H.take (k + 1)) := by
        rw [gH_take (by rw [HLN.out]; exact hlt), ← hm3]
        have e : gH H k = a := by rw [HA.out, Nat.mod_eq_of_lt hlt]
        rw [e]; exact nl2
      subst hm3
      have BB := Lib.hid B1
      have K0 := Lib.hid k0
      have K1 := Lib.hid k1
      have HM1 := Lib.hid hM1
      have NL3 := Lib.hid nl3
      have hy1 : y + 1 ≤ V1.heap.size := by omega
      have d0 := k0.cell 0
      have d1 := k1.cell 0
      simp only [List.getElem?_toArray, List.getElem?_cons_zero] at d0 d1
      clear hva hoy hV1 hss B1 k0 k1 hM1 hm2 nl2 nl3 gr2 HNL HK0 HK1 HB HM b0 b1 c0 c1 c2 hq1 hq2
      gi_wp2_with fail
      refine ⟨trivial, callsIn_wide.2 ?_⟩
      refine (Around_is t a V1).mono ?_
      rintro e V2 ⟨rfl, kcs, kca, hb2⟩
      obtain ⟨cs, ecs⟩ : ∃ b, V1.heap.size = b := ⟨_, rfl⟩
      obtain ⟨ca, eca⟩ : ∃ b, V1.heap.size + 1 = b := ⟨_, rfl⟩
      have o3 : cs < ca := by omega
      have o4 : ca < V2.heap.size := by have := kca.lt; omega
      have o5 : y < cs := by omega
      have SM2 := Lib.hid (HS.out.of (BB.out.trans (hb2.mono BB.out.size)))
      have BB2 := Lib.hid (BB.out.trans (hb2.mono BB.out.size))
      have KS2 := Lib.hid (K0.out.of hb2)
      have KA2 := Lib.hid (K1.out.of hb2)
      have NL2 := Lib.hid (NL3.out.of hb2)
      have HM2 : Hid (Marks y V2 ds) := Lib.hid (HM1.out.keep fun r _ h2 => hb2.block r h2)
      have hy0w : y0 < V2.heap.size := by omega
      rw [eca] at kca ⊢
      rw [ecs] at kcs ⊢
      have KC := Lib.hid (And.intro kcs kca)
      clear kcs kca hb2 BB K0 K1 NL3 HM1 d0 d1 ecs eca
      gi_wp2_with fail
      obtain ⟨z, hz⟩ : ∃ z, gH H ((k + 1) % len) = z := ⟨_, rfl⟩
      have HZ := Lib.hid hz
      rw [hz] at HNX
      obtain ⟨lr, hlr⟩ : ∃ l, (O a).length = l := ⟨_, rfl⟩
      have HLR := Lib.hid hlr
      have hrow : rowO N O (a : Int) = O a := by unfold rowO; rw [if_pos (by omega)]; rfl
      have hT := Around1_tells cs ca t D N X Y O n a (O a) hrow (V2.heap.size + 2)
      rw [hlr] at hT
      clear hlr hrow hz
      refine wpIn_rangeX (m := 1) (gf := 67) (lb := #[ptr cs 0, ptr ca 0]) (N := lr) (encs := arE (O a)) (Kp := fun W => Blk W cs #[ptr t 0] 25 ∧ Blk W ca #[.int .i64 (a : Nat)] 3 ∧ SM W t D N X Y O n) rfl (fun args w => by go_simp) hT (fun _ => rfl)
        (fun G j W => (∀ g, ¬ G g) ∧ Below V2.heap.size V2 W ∧ ∀ i x, i < j → (O a)[i]? = some x → lookH (O x.1) (a : Nat) ≠ none)
        (fun c j W => c = .exit 1 ∧ Fr V2 W (fun b => b = y) ∧ Blk W y #[.int .i64 (z : Nat)] 3) ?hg ?stable ?xstable ?keeps ?start ?round ?done ?stop
      case hg => rintro G j W ⟨j1, _⟩ g hg; exact absurd hg (j1 g)
      case stable => rintro G j W W' ⟨j1, j2, j3⟩ ⟨hbl, _⟩; exact ⟨j1, j2.trans hbl, j3⟩
      case xstable =>
        rintro c j W W' ⟨j1, j2, j3⟩ hbl
        exact ⟨j1, j2.trans (S' := fun b => V2.heap.size ≤ b) ⟨hbl.os, hbl.tape, hbl.output, hbl.size, fun k _ hk => hbl.block k (by omega)⟩ (fun _ h => .inr h), j3.below hbl (by omega)⟩
      case keeps =>
        rintro G j W ⟨j1, j2, j3⟩
        exact ⟨KC.out.1.of j2, KC.out.2.of j2, SM2.out.of j2⟩
      case start => exact ⟨fun g h => h, Below.refl _ _, fun i x hi => by omega⟩
      case round =>
        rintro l2 D2 j G W2 hj ⟨j1, j2, j3⟩ g1 g2 g3 g4
        obtain ⟨x, hx⟩ : ∃ x, (O a)[j]? = some x := ⟨_, List.getElem?_eq_getElem (show j < (O a).length by rw [HLR.out]; exact hj)⟩
        have hE : arE (O a) j = #[.int .i64 x.1, .int .i64 x.2] := by unfold arE; rw [List.getD_eq_getElem?_getD, hx]; rfl
        rw [hE]
        obtain ⟨xb, xc⟩ := x
        have HX := Lib.hid hx
        have J1 := Lib.hid j1
        have J2 := Lib.hid j2
        have J3 := Lib.hid j3
        clear j1 j2 j3 hx hE hT
        gi_wp2_with fail
        refine ⟨⟨Fix2.of (OutL.refl [] _) g3 g4 (by simp) (by simp), AboveX.refl _ _ _⟩, ?_⟩
        intro W3 hW3
        have hs3 := hW3.size
        have B3 := Lib.hid (J2.out.trans (hW3.below (B := V2.heap.size) (by omega) (by simp; omega)))
        have q0 := (KS2.out.of B3.out).cell 0
        have q1 := (KA2.out.of B3.out).cell 0
        simp only [List.getElem?_toArray, List.getElem?_cons_zero] at q0 q1
        gi_wp2_with fail
        refine ⟨trivial, CallsIn.inRound l2 (callsIn_wide.2 ?_)⟩
        have hxd := (HS.out.dom a haN _ (List.mem_iff_getElem?.2 ⟨j, HX.out⟩)).1
        have hlo : leftO N O (xb : Int) (a : Int) = lookH (O xb) (a : Nat) := by unfold leftO; rw [if_pos (by simp only [] at hxd; omega)]; rfl
        obtain ⟨R, hR⟩ : ∃ R, lookH (O xb) (a : Nat) = R := ⟨_, rfl⟩
        have HR := Lib.hid hR
        refine (Left_is t D N X Y O n xb a W3 (SM2.out.of B3.out) R (hlo.trans hR)).mono ?_
        rintro e W4 ⟨rfl, hb4⟩
        have hs4 := hb4.size
        have B4 := Lib.hid (B3.out.trans (hb4.mono B3.out.size))
        have X34 := Lib.hid hb4
        have k1 := KA2.out.of B4.out
        have r1 := k1.cell 0
        have f1 := k1.free 0
        have l1 := k1.lt
        simp only [List.getElem?_toArray, List.getElem?_cons_zero] at r1
        have K1 := Lib.hid k1
        have hsz3 : V2.heap.size ≤ W3.heap.size := B3.out.size
        clear hxd hlo hR q0 q1 k1 hb4 B3
        cases R with
        | some c =>
          have GG : Hid ((Fix2 l2 D2 W3 W4 ∧ ∃ G' : Nat → Prop, (∀ g, G' g → G g ∨ W3.heap.size ≤ g) ∧ (∀ g, ¬ G' g) ∧ Below V2.heap.size V2 W4 ∧ ∀ i x, i < j + 1 → (O a)[i]? = some x → lookH (O x.1) (a : Nat) ≠ none) ∧ AboveX (V2.heap.size + 2) G W3 W4) := by
            refine Lib.hid ⟨⟨⟨X34.out.block l2 (by omega), X34.out.block D2 (by omega)⟩, fun _ => False, fun g h => h.elim, fun g h => h, B4.out, fun i x hi hx => ?_⟩, ⟨hs4, fun k _ hk _ => X34.out.block k hk⟩⟩
            rcases Nat.lt_or_ge i j with h | h
            · exact J3.out i x h hx
            · have : i = j := by omega
              subst this
              rw [HX.out] at hx
              injection hx with hx
              subst hx
              intro e
              have := HR.out
              rw [e] at this; cases this
          clear r1 f1 l1 hs4
          gi_wp2
          exact GG.out
        | none =>
          have hzx : z = xb := by
            have := nxtO_at HX.out J3.out HR.out
            rw [HNX.out] at this
            injection this
          have GG : Hid ((Fix2 l2 D2 W3 (W4.setCell ⟨y, 0, none⟩ (.int .i64 (xb : Nat))) ∧ Fr V2 (W4.setCell ⟨y, 0, none⟩ (.int .i64 (xb : Nat))) (fun b => b = y) ∧ Blk (W4.setCell ⟨y, 0, none⟩ (.int .i64 (xb : Nat))) y #[.int .i64 (z : Nat)] 3) ∧ AboveX (V2.heap.size + 2) G W3 (W4.setCell ⟨y, 0, none⟩ (.int .i64 (xb : Nat)))) := by
            have hst : ∀ g, g ≠ y → (W4.setCell ⟨y, 0, none⟩ (.int .i64 (xb : Nat))).heap[g]? = W4.heap[g]? := fun g h => Below.heap_setCell W4 ⟨y, 0, none⟩ (.int .i64 (xb : Nat)) g h
            have hsf : (W4.setCell ⟨y, 0, none⟩ (.int .i64 (xb : Nat))).heap.size = W4.heap.size := by simp [World.setCell]
            refine Lib.hid ⟨⟨⟨(hst l2 (by omega)).trans (X34.out.block l2 (by omega)), (hst D2 (by omega)).trans (X34.out.block D2 (by omega))⟩, ⟨B4.out.os, B4.out.tape, B4.out.output, by rw [hsf]; exact B4.out.size, fun k hk hn => (hst k hn).trans (B4.out.block k hk)⟩, ?_⟩, ⟨by rw [hsf]; exact hs4, fun k h1 hk _ => (hst k (by omega)).trans (X34.out.block k hk)⟩⟩
            rw [hzx]; exact K1.out.put 0 (.int .i64 (xb : Nat))
          clear hs4 hzx
          gi_wp2
          exact ⟨⟨GG.out.1.1, rfl, GG.out.1.2⟩, GG.out.2⟩
      case done =>
        rintro Dd G V5 g1 ⟨j1, j2, j3⟩ hD
        have := nxtO_end (a := a) (O := O) (fun i y hi => j3 i y (by rw [← HLR.out]; exact hi))
        rw [HNX.out] at this
        cases this
      case stop =>
        rintro Dd c k' V5 g1 ⟨rfl, j2, j3⟩ hD
        have hst : Hid (k + 1 ≤ len ∧ (k + 1 = len → z = 0) ∧ (0 < k + 1 → k + 1 < len → z ≠ 0) ∧ z = gH H ((k + 1) % len)) := by
          refine Lib.hid ⟨hlt, fun h => ?_, fun _ h => ?_, HZ.out.symm⟩
          · rw [← HZ.out, h, Nat.mod_self]; exact HH.out.zero
          · rw [← HZ.out, Nat.mod_eq_of_lt h]; exact HH.out.nz _ (by omega) (by rw [HLN.out]; exact h)
        have F1 := Lib.hid (BB2.out.trans (j2.below (B := w.heap.size) BB2.out.size (fun k h => by omega)))
        have F2 := Lib.hid (j2.blk KS2.out (by omega))
        have F3 := Lib.hid j3
        have F4 : Hid (NL V5 (y + 1) (.slice ho2 (k + 1) hc2) (H.take (k + 1))) := Lib.hid (NL2.out.keep fun g hg => j2.block g (NL2.out.own hg).2 (by have := (NL2.out.own hg).1; omega))
        have F5 : Hid (Marks y V5 ({ target := .collected Dd, args := #[] } :: ds)) := Lib.hid ⟨⟨Dd, rfl, by omega, hD, fun d hd r hr => by have := HM2.out.lt d hd r hr; omega⟩, HM2.out.keep fun r h1 h2 => j2.block r h2 (by omega)⟩
        have hs5 := j2.size
        have hy5 : y + 1 ≤ V5.heap.size := by omega
        have hms : len - (k + 1) < gk := by omega
        clear j2 j3 hD hT BB2 KS2 KA2 NL2 HM2 KC
        gi_wp2_with fail
        exact ⟨len - (k + 1), hms, hJ _ _ _ ⟨_, _, _, _, _, _, _, _, _, _, _, _, _, _, _, _, _, _, _, _, _, _, _, _, _, _, _, _, _, _, _, _, _, _, _, _, _, _, _, _, _, _, _, _, _, _ , k + 1, ho2, hc2, z, ⟨hst.out.1, Nat.le_refl _, hst.out.2.1, hst.out.2.2.1, Lib.hid hst.out.2.2.2, F4, F1, F2, F3, hy5, F5⟩, rfl⟩⟩
  · have hke : k = len := by omega
    have haz := ha0 hke
    subst haz
    have hk1 : ¬ k = 0 := by omega
    have hk4 : ((k : Int) == 0) = false := by simp; omega
    have HF := Lib.hid (show NL wr (y + 1) (.slice ho k hc) H by
      have := HNL.out
      rw [List.take_of_length_le (by rw [HLN.out]; omega)] at this
      exact this)
    have hbs := HB.out.size
    clear HNL HK0 HK1 hke HA
    gi_wp2
    refine leaves_marks (B := w.heap.size) (by omega) (fun g => (Value.slice ho k hc).ownBlock = some g) ds wr (by omega) HM.out (fun d hd r hr => Marks.own HF.out HM.out d hd r hr) fun w' hb => ?_
    simp only [LeavesInM, LeavesIn]
    refine ⟨.slice ho k hc, by simp [results, Try.results13, go_sem], _, rfl, ?_, HB.out.trans hb.1⟩
    exact (HF.out.keep fun g hg => hb.2 g hg (HF.out.own hg).2).low2 (by omega)
end Go.Proofs.Ytdlpfiiakmhnlaa

namespace Go.Proofs.Ytdlpfiiakmhnlaa
open Go.RowKit

def fP (X Y : Nat → Int) (n : Nat) : List Value := (List.range n).flatMap fun i => [.int .i64 (X i), .int .i64 (Y i)]
theorem fP_succ (X Y : Nat → Int) (n : Nat) : fP X Y (n + 1) = fP X Y n ++ [.int .i64 (X n), .int .i64 (Y n)] := by unfold fP; rw [List.range_succ, List.flatMap_append]; rfl
theorem info_rp : (Try.prog.info? 51).map (fun i => (i.zero, i.size, i.bytes)) = some (some (.agg #[.int .i64 0, .int .i64 0]), 2, 16) := by kernel_rfl
set_option maxRecDepth 100000 in
set_option maxHeartbeats 4000000 in
theorem refs_is (ao : Option Addr) (N cap : Nat) (X Y : Nat → Int) (w : World) (h : Pts w ao N cap X Y) (hN : N ≤ 4096) :
    Calls Try.prog 15 #[.slice ao N cap] w fun e w' => ∃ v, e = .returned v ∧ w'.ownsRow w.heap.size 51 2 v N (fP X Y N) ∧ Below w.heap.size w w' := by
  have hcl := h.capl
  have hcb := h.capb
  have HO := Lib.hid h
  clear h
  obtain ⟨i0, hi, hz0, hz1, hz2⟩ := info_parts info_rp
  go_enter Try.func15, Try.ntmps15
  go_wp2_with fail
  go_loopg [3, 8] N (fun gk s3 s8 wr => ∃ k : Nat, s8 = .int .i64 k ∧ k ≤ N ∧ N - k ≤ gk ∧ Hid (wr.ownsRow w.heap.size 51 2 s3 k (fP X Y k)) ∧ Hid (Below w.heap.size w wr))
  case atStart => exact ⟨0, rfl, Nat.zero_le _, by omega, Lib.hid ⟨rfl, .inl ⟨rfl, rfl⟩⟩, Lib.hid (Below.refl _ _)⟩
  case round =>
    obtain ⟨k, rfl, hk, hgk, HR, HW⟩ := hrel
    by_cases hlt : k < N
    · obtain ⟨pa, rfl, p0, p1⟩ := HO.out.at HW.out hlt
      have HX := Lib.hid (fP_succ X Y k)
      obtain ⟨px, hpx⟩ : ∃ x, X k = x := ⟨_, rfl⟩
      obtain ⟨py, hpy⟩ : ∃ x, Y k = x := ⟨_, rfl⟩
      rw [hpx] at p0 HX
      rw [hpy] at p1 HX
      have hz := HW.out.size
      obtain ⟨v, hv⟩ : ∃ v, v = u3 := ⟨_, rfl⟩
      have hown := own_belowT (own_belowT HR.out (below_a1 wr (.cells #[.int .i64 px, .int .i64 py] 41))) (below_a1 _ (.cells #[.int .i64 px, .int .i64 py] 51))
      clear hpx hpy
      go_wp2_with (at_builtin; go_loud (refine wpList_append_own _ rfl _ _ 32 rfl w.heap.size 51 i0 (.agg #[.int .i64 0, .int .i64 0]) 2 16 Try.underlying32 hi hz0 hz1 hz2 rfl (by decide) u3 k (fP X Y k) rfl hown ⟨wr.heap.size + 1, 0, none⟩ 1 1 [.int .i64 px, .int .i64 py] rfl rfl ?c1 ?c2 ?c3 ?c4 ?c5 ?_))
      case c1 =>
        intro j u hj
        match j, hj with
        | 0, hj => simp at hj; subst hj; exact (Blk.new1 wr _ _ _).cell 0
        | 1, hj => simp at hj; subst hj; exact (Blk.new1 wr _ _ _).cell 1
        | j + 2, hj => simp at hj
      case c2 => intro u hu; simp at hu; rcases hu with rfl | rfl <;> rfl
      case c3 => unfold maxLen; omega
      case c4 => omega
      case c5 => simp; omega
      intro v1 w1 own1 gr1 _
      rw [← HX.out] at own1
      have OW := Lib.hid own1
      have hb1 : Below w.heap.size wr w1 := ((below_a2 wr _ _).mono hz).grown gr1 (by simp; omega) fun g hg => (World.ownsRow.lt hown g hg).1
      have HW2 := Lib.hid (HW.out.trans hb1)
      clear own1 gr1 hb1 hown p0 p1 HR HW
      go_wp2_with fail
      go_roundg (N - (k + 1))
      case measure => omega
      case rel => exact ⟨k + 1, by norm_cast, by omega, Nat.le_refl _, OW, HW2⟩
    · go_wp2
      simp [bodyPost, results, Try.results15, go_sem]
      have e : k = N := by omega
      rw [e] at HR
      exact ⟨HR.out, HW.out⟩
end Go.Proofs.Ytdlpfiiakmhnlaa

namespace Go.Proofs.Ytdlpfiiakmhnlaa
open Go.RowKit

/-- reference points as points -/
theorem Pts.ofRow {w : World} {base n : Nat} {v : Value} {X Y : Nat → Int} (h : w.ownsRow base 51 2 v n (fP X Y n)) : ∃ ao cap, v = .slice ao n cap ∧ Pts w ao n cap X Y := by
  rcases h.2 with ⟨rfl, hn⟩ | ⟨g, cap, cur, rfl, hb, hg, h1, h2, h3, h4⟩
  · exact ⟨none, 0, by rw [hn], fun h0 => by omega, by omega, by omega⟩
  · refine ⟨_, cap, rfl, fun h0 => ⟨⟨g, 0, none⟩, rfl, (Array.getElem?_eq_some_iff.1 hg).1, fun i hi => ?_⟩, h1, by unfold maxLen at h2; omega⟩
    have hf : ∀ m i, i < m → (fP X Y m)[i * 2]? = some (.int .i64 (X i)) ∧ (fP X Y m)[i * 2 + 1]? = some (.int .i64 (Y i)) := by
      intro m
      induction m with
      | zero => intro i hi; omega
      | succ m ih =>
        intro i hi
        have hl : (fP X Y m).length = m * 2 := by
          clear ih hi h3 h4
          induction m with
          | zero => rfl
          | succ m ih => rw [fP_succ, List.length_append, ih]; show m * 2 + 2 = _; omega
        rw [fP_succ]
        rcases Nat.lt_or_ge i m with h5 | h5
        · rw [List.getElem?_append_left (by omega), List.getElem?_append_left (by omega)]
          exact ih i h5
        · obtain rfl : i = m := by omega
          rw [List.getElem?_append_right (by omega), List.getElem?_append_right (by omega), hl, Nat.sub_self, show i * 2 + 1 - i * 2 = 1 by omega]
          exact ⟨rfl, rfl⟩
    obtain ⟨f0, f1⟩ := hf n i hi
    have c : ∀ k u, k < n * 2 → (fP X Y n)[k]? = some u → w.cell? ⟨g, k, none⟩ = some u := fun k u hk hu => by
      rw [cell_row hg, ← Array.getElem?_toList]
      rw [← h4, List.getElem?_take_of_lt hk] at hu
      exact hu
    have e : (⟨g, 0, none⟩ : Addr).add (i * 2) = ⟨g, i * 2, none⟩ := by unfold Addr.add; split <;> simp_all
    rw [e]
    exact ⟨c (i * 2) _ (by omega) f0, c (i * 2 + 1) _ (by omega) f1⟩
end Go.Proofs.Ytdlpfiiakmhnlaa

namespace Go.Proofs.Ytdlpfiiakmhnlaa
open Go.RowKit

/-- what one point says to a way -/
def goodR (X Y : Nat → Int) (a i k : Nat) : Prop := ¬ wy X Y a i k < 0 ∧ (wy X Y a i k = 0 → k ≠ a → k ≠ i → onB (X a) (Y a) (X i) (Y i) (X k) (Y k) = false)
structure RC (N : Nat) (X Y : Nat → Int) (H : List Nat) : Prop where
  pos : 0 < H.length
  len : H.length ≤ N
  zero : gH H 0 = 0
  nz : ∀ i, 0 < i → i < H.length → gH H i ≠ 0
  lt : ∀ i, i < H.length → gH H i < N
  nxt : ∀ i, i < H.length → ∀ k, k < N → k ≠ gH H i → ((∀ j, j < N → goodR X Y (gH H i) k j) ↔ k = gH H ((i + 1) % H.length))
  ne : ∀ i, i < H.length → gH H ((i + 1) % H.length) ≠ gH H i
end Go.Proofs.Ytdlpfiiakmhnlaa

namespace Go.Proofs.Ytdlpfiiakmhnlaa
open Go.RowKit

theorem mul_le_pos {d x y : Int} (hd : 0 < d) (h : d * x ≤ d * y) : x ≤ y := by
  rcases Int.lt_or_le y x with h1 | h1
  · have := Int.mul_lt_mul_of_pos_left h1 hd; omega
  · exact h1
theorem mul_eq_pos {d x y : Int} (hd : 0 < d) (h : d * x = d * y) : x = y := Int.le_antisymm (mul_le_pos hd (by omega)) (mul_le_pos hd (by omega))
/-- on one line: in the box is between, left to right -/
theorem box_up {ax ay bx b_y px py : Int} (h1 : -2199023255552 ≤ ay) (h2 : ay ≤ 2199023255552) (h3 : -2199023255552 ≤ b_y) (h4 : b_y ≤ 2199023255552) (h5 : -2199023255552 ≤ py) (h6 : py ≤ 2199023255552) (hx : ax < bx)
    (ht : (bx - ax) * (py - ay) = (b_y - ay) * (px - ax)) :
    (btw ax bx px = true ∧ btw ay b_y py = true) ↔ 4398046511105 * ax + ay ≤ 4398046511105 * px + py ∧ 4398046511105 * px + py ≤ 4398046511105 * bx + b_y := by
  obtain ⟨d, hd⟩ : ∃ d, bx - ax = d := ⟨_, rfl⟩
  obtain ⟨e, he⟩ : ∃ e, b_y - ay = e := ⟨_, rfl⟩
  obtain ⟨u, hu⟩ : ∃ u, px - ax = u := ⟨_, rfl⟩
  obtain ⟨v, hv⟩ : ∃ v, py - ay = v := ⟨_, rfl⟩
  rw [hd, he, hu, hv] at ht
  have d0 : 0 < d := by omega
  unfold btw
  simp only [Bool.and_eq_true, decide_eq_true_eq]
  constructor
  · rintro ⟨⟨k1, k2⟩, k3, k4⟩
    have u0 : 0 ≤ u := by omega
    have u1 : u ≤ d := by omega
    constructor
    · rcases Int.lt_or_eq_of_le u0 with h | h
      · omega
      · rw [← h, Int.mul_zero] at ht
        have := g_zero_of (by omega) ht
        omega
    · rcases Int.lt_or_eq_of_le u1 with h | h
      · omega
      · rw [h, Int.mul_comm e d] at ht
        have := mul_eq_pos d0 ht
        omega
  · rintro ⟨k1, k2⟩
    have u0 : 0 ≤ u := by omega
    have u1 : u ≤ d := by omega
    refine ⟨⟨by omega, by omega⟩, ?_⟩
    rcases Int.lt_or_le e 0 with he0 | he0
    · have a1 : e * u ≤ 0 := by have := Int.mul_nonneg (show 0 ≤ -e by omega) u0; rw [Int.neg_mul] at this; omega
      have a2 : e * d ≤ e * u := by have := Int.mul_le_mul_of_nonneg_left u1 (show 0 ≤ -e by omega); rw [Int.neg_mul, Int.neg_mul] at this; omega
      have v0 : v ≤ 0 := mul_le_pos d0 (by omega)
      have v1 : e ≤ v := mul_le_pos d0 (by rw [Int.mul_comm d e]; omega)
      omega
    · have a1 : 0 ≤ e * u := Int.mul_nonneg he0 u0
      have a2 : e * u ≤ e * d := Int.mul_le_mul_of_nonneg_left u1 he0
      have v0 : 0 ≤ v := mul_le_pos d0 (by omega)
      have v1 : v ≤ e := mul_le_pos d0 (by rw [Int.mul_comm d e]; omega)
      omega
theorem btw_swap (a b n : Int) : btw a b n = btw b a n := by unfold btw; rw [Int.min_comm, Int.max_comm]
theorem box_lex {ax ay bx b_y px py : Int} (h1 : -2199023255552 ≤ ay) (h2 : ay ≤ 2199023255552) (h3 : -2199023255552 ≤ b_y) (h4 : b_y ≤ 2199023255552) (h5 : -2199023255552 ≤ py) (h6 : py ≤ 2199023255552) (hne : ¬ (ax = bx ∧ ay = b_y))
    (ht : trn ax ay bx b_y px py = 0) :
    (btw ax bx px = true ∧ btw ay b_y py = true) ↔ (4398046511105 * ax + ay ≤ 4398046511105 * px + py ∧ 4398046511105 * px + py ≤ 4398046511105 * bx + b_y) ∨ (4398046511105 * bx + b_y ≤ 4398046511105 * px + py ∧ 4398046511105 * px + py ≤ 4398046511105 * ax + ay) := by
  unfold trn at ht
  rcases Int.lt_trichotomy ax bx with h | h | h
  · rw [box_up h1 h2 h3 h4 h5 h6 h (by omega)]
    constructor
    · exact .inl
    · rintro (k | k)
      · exact k
      · omega
  · subst h
    rw [Int.sub_self, Int.zero_mul, Int.zero_sub] at ht
    have e0 : b_y - ay ≠ 0 := by omega
    have := g_zero_of e0 (show (b_y - ay) * (px - ax) = 0 by omega)
    have hp : px = ax := by omega
    subst hp
    unfold btw
    simp only [Bool.and_eq_true, decide_eq_true_eq]
    omega
  · have := box_up h3 h4 h1 h2 h5 h6 h (px := px) (by
      have e : (bx - ax) * (py - ay) - (b_y - ay) * (px - ax) = -((ax - bx) * (py - b_y) - (ay - b_y) * (px - bx)) := by grind
      omega)
    rw [btw_swap ax bx, btw_swap ay b_y, this]
    constructor
    · exact .inr
    · rintro (k | k)
      · omega
      · exact k
theorem allC_co {n : Nat} {X Y : Nat → Int} (h : allC n X Y = true) {i : Nat} (hi : i < n) : Co (X i) ∧ Co (Y i) := rp_co (allC_rpT h hi)
theorem sX_mono {N : Nat} {X Y : Nat → Int} (hR : gRis (sX X Y) N) {i j : Nat} (hi : i < N) (hj : j < N) : sX X Y i ≤ sX X Y j ↔ i ≤ j := by
  constructor
  · intro h
    rcases Nat.lt_or_ge j i with h1 | h1
    · have := hR j i h1 hi; omega
    · exact h1
  · intro h
    rcases Nat.lt_or_ge i j with h1 | h1
    · have := hR i j h1 hj; omega
    · rw [show i = j by omega]; exact Int.le_refl _
/-- lies on: on one line, between -/
theorem onB_iff {N : Nat} {X Y : Nat → Int} (hg : allC N X Y = true) (hr : risC N X Y) {a b k : Nat} (ha : a < N) (hb : b < N) (hk : k < N) (hne : a ≠ b) (ht : gT X Y a b k = 0) :
    onB (X a) (Y a) (X b) (Y b) (X k) (Y k) = true ↔ (a ≤ k ∧ k ≤ b) ∨ (b ≤ k ∧ k ≤ a) := by
  have hR := sX_ris hg hr
  obtain ⟨_, c1, c2⟩ := allC_co hg ha
  obtain ⟨_, c3, c4⟩ := allC_co hg hb
  obtain ⟨_, c5, c6⟩ := allC_co hg hk
  have hxy : ¬ (X a = X b ∧ Y a = Y b) := by
    rintro ⟨e1, e2⟩
    have e : sX X Y a = sX X Y b := by unfold sX; rw [e1, e2]
    have h1 := (sX_mono hR ha hb).1 (by omega)
    have h2 := (sX_mono hR hb ha).1 (by omega)
    omega
  have h := box_lex c1 c2 c3 c4 c5 c6 hxy (show trn (X a) (Y a) (X b) (Y b) (X k) (Y k) = 0 from ht)
  have m1 := sX_mono hR ha hk
  have m2 := sX_mono hR hk hb
  have m3 := sX_mono hR hb hk
  have m4 := sX_mono hR hk ha
  unfold sX at m1 m2 m3 m4
  rw [m1, m2, m3, m4] at h
  rw [← h]
  have g : rp3 (X a) (Y a) (X b) (Y b) (X k) (Y k) = true := by
    unfold rp3
    rw [allC_rpT hg ha, allC_rpT hg hb, allC_rpT hg hk]; rfl
  unfold onB
  rw [g, show trn (X a) (Y a) (X b) (Y b) (X k) (Y k) = 0 from ht]
  simp
theorem goodR_iff {N : Nat} {X Y : Nat → Int} (hg : allC N X Y = true) (hr : risC N X Y) {a b : Nat} (ha : a < N) (hb : b < N) (hne : a ≠ b) : (∀ k, k < N → goodR X Y a b k) ↔ gE (sX X Y) Y (N - 1) a b := by
  constructor
  · intro h k hk
    have hkN : k < N := by omega
    obtain ⟨h1, h2⟩ := h k hkN
    obtain ⟨s1, s2⟩ := wy_gT hg a b k ha hb hkN
    refine ⟨by have := mt s1.2 h1; omega, fun h0 => ?_⟩
    have h3 := h2 (s2.2 h0)
    have h0' : gT X Y a b k = 0 := by rw [sX_T] at h0; omega
    have ho := onB_iff hg hr ha hb hkN hne h0'
    constructor
    · rintro ⟨k1, k2⟩
      have := h3 (by omega) (by omega)
      rw [ho.2 (.inl ⟨by omega, by omega⟩)] at this; cases this
    · rintro ⟨k1, k2⟩
      have := h3 (by omega) (by omega)
      rw [ho.2 (.inr ⟨by omega, by omega⟩)] at this; cases this
  · intro h k hkN
    obtain ⟨h1, h2⟩ := h k (by omega)
    obtain ⟨s1, s2⟩ := wy_gT hg a b k ha hb hkN
    refine ⟨fun e => by have := s1.1 e; omega, fun h0 k1 k2 => ?_⟩
    have h3 := h2 (s2.1 h0)
    have h0' : gT X Y a b k = 0 := by have := s2.1 h0; rw [sX_T] at this; omega
    have ho := onB_iff hg hr ha hb hkN hne h0'
    cases hb' : onB (X a) (Y a) (X b) (Y b) (X k) (Y k) with
    | false => rfl
    | true => rcases ho.1 hb' with c | c <;> omega
/-- from one point on there is one way around alone -/
theorem gE_one {X Y : Nat → Int} {N a b c q : Nat} (hX : gRis X N) (hN : 1 < N) (ha : a < N) (hb : b < N) (hc : c < N) (hq : q < N) (nb : a ≠ b) (nc : a ≠ c) (hf : gT X Y 0 1 q ≠ 0) (h1 : gE X Y (N - 1) a b) (h2 : gE X Y (N - 1) a c) : b = c := by
  refine Classical.byContradiction fun hne => ?_
  have z0 : gT X Y a b c = 0 := by
    have k1 := (h1 c (by omega)).1
    have k2 := (h2 b (by omega)).1
    have e : gT X Y a c b = -gT X Y a b c := by unfold gT; grind
    omega
  have z1 : gT X Y a c b = 0 := by
    have e : gT X Y a c b = -gT X Y a b c := by unfold gT; grind
    omega
  have s1 := (h1 c (by omega)).2 z0
  have s2 := (h2 b (by omega)).2 z1
  have opp : (b < a ∧ a < c) ∨ (c < a ∧ a < b) := by omega
  have par : ∀ k, (X b - X a) * gT X Y a c k = (X c - X a) * gT X Y a b k := fun k => by
    have e := gT_xab (X := X) (Y := Y) a b c k
    have e2 : gT X Y a k b = -gT X Y a b k := by unfold gT; grind
    rw [z0, e2] at e
    have e3 : (X c - X a) * -gT X Y a b k = -((X c - X a) * gT X Y a b k) := Int.mul_neg _ _
    rw [e3, Int.mul_zero] at e
    omega
  have all0 : ∀ k, k < N → gT X Y a b k = 0 := fun k hk => by
    have k1 := (h1 k (by omega)).1
    have k2 := (h2 k (by omega)).1
    have p := par k
    rcases opp with ⟨o1, o2⟩ | ⟨o1, o2⟩
    · have x1 := hX b a o1 ha
      have x2 := hX a c o2 hc
      have l1 : (X b - X a) * gT X Y a c k ≤ 0 := by
        have := Int.mul_nonneg (show 0 ≤ X a - X b by omega) k2
        have e : (X b - X a) * gT X Y a c k = -((X a - X b) * gT X Y a c k) := by grind
        omega
      have l2 := Int.mul_nonneg (show 0 ≤ X c - X a by omega) k1
      exact g_zero_of (show X c - X a ≠ 0 by omega) (by omega)
    · have x1 := hX c a o1 ha
      have x2 := hX a b o2 hb
      have l1 := Int.mul_nonneg (show 0 ≤ X b - X a by omega) k2
      have l2 : (X c - X a) * gT X Y a b k ≤ 0 := by
        have := Int.mul_nonneg (show 0 ≤ X a - X c by omega) k1
        have e : (X c - X a) * gT X Y a b k = -((X a - X c) * gT X Y a b k) := by grind
        omega
      exact g_zero_of (show X c - X a ≠ 0 by omega) (by omega)
  have e := gT_line (X := X) (Y := Y) a b 0 1 q
  rw [all0 0 (by omega), all0 1 hN, all0 q hq] at e
  have xb : X b - X a ≠ 0 := by
    rcases Nat.lt_or_gt_of_ne nb with h | h
    · have := hX a b h hb; omega
    · have := hX b a h ha; omega
  refine hf (g_zero_of xb ?_)
  rw [Int.mul_comm]; rw [e]; simp
theorem rc_of {N q : Nat} {X Y : Nat → Int} (hg : allC N X Y = true) (hr : risC N X Y) (hl : isLn N X Y q) (hq : q < N) {h : List Nat} {z : Nat} (H : Hul (sX X Y) Y (N - 1) h) (hz : z < h.length) (hz0 : gH h z = 0) (hln : h.length ≤ N) : RC N X Y (rotH h z) := by
  have h3 := H.len
  have h2 : 2 ≤ q := by have := hl.1; omega
  have ml : ∀ k, k % h.length < h.length := fun k => Nat.mod_lt _ (by omega)
  have hlen := rotH_len h z
  have hX := sX_ris hg hr
  have hf : gT (sX X Y) Y 0 1 q ≠ 0 := fun e => hl.2.2.2 hq ((wy_gT hg 0 1 q (by omega) (by omega) hq).2.2 e)
  have hle : ∀ i, i < h.length → gH h i < N := fun i hi => by have := H.le i hi; omega
  have nx : ∀ i, i < h.length → gH (rotH h z) ((i + 1) % h.length) = gH h (((z + i) % h.length + 1) % h.length) := fun i hi => by
    rw [rotH_at (ml _), Nat.add_mod_mod, Nat.mod_add_mod, show z + (i + 1) = z + i + 1 by omega]
  have nne : ∀ i, i < h.length → gH h ((i + 1) % h.length) ≠ gH h i := fun i hi e => (pred_ne hi h3).2.1 (H.nd _ _ (ml _) hi e)
  refine ⟨by omega, by omega, ?_, fun i h0 hi => ?_, fun i hi => ?_, fun i hi k hk hne => ?_, fun i hi => ?_⟩
  · rw [rotH_at (by omega), Nat.add_zero, Nat.mod_eq_of_lt hz, hz0]
  · rw [hlen] at hi
    rw [rotH_at hi]
    intro e
    have := H.nd _ _ (ml _) hz (e.trans hz0.symm)
    have h5 : i = 0 := g_mod_inj (f := z) hi (by omega) (by rw [this, Nat.add_zero, Nat.mod_eq_of_lt hz])
    omega
  · rw [hlen] at hi
    rw [rotH_at hi]
    exact hle _ (ml _)
  · rw [hlen] at hi ⊢
    rw [nx i hi]
    rw [rotH_at hi] at hne ⊢
    have e0 := H.edge _ (ml (z + i))
    have n0 := nne _ (ml (z + i))
    have l0 := hle _ (ml (z + i))
    have l1 := hle _ (ml ((z + i) % h.length + 1))
    rw [goodR_iff hg hr l0 hk hne.symm]
    constructor
    · intro h5
      exact gE_one hX (by omega) l0 hk l1 hq hne.symm n0.symm hf h5 e0
    · intro h5; rw [h5]; exact e0
  · rw [hlen] at hi ⊢
    rw [nx i hi, rotH_at hi]
    exact nne _ (ml _)
end Go.Proofs.Ytdlpfiiakmhnlaa

namespace Go.Proofs.Ytdlpfiiakmhnlaa
open Go.RowKit

/-- what Build makes of points -/
structure Tri (N : Nat) (X Y : Nat → Int) (q : Nat) (T : List Tri3) (O : Nat → List (Nat × Nat)) : Prop where
  ln : isLn N X Y q
  none : q = N → T = []
  some : q < N → ∃ h z, T = (bld X Y q (N - 1 - q)).2 ∧ h = (bld X Y q (N - 1 - q)).1 ∧ Hul (sX X Y) Y (N - 1) h ∧ Bnd (N - 1) h T ∧ Brd h T ∧ z < h.length ∧ gH h z = 0 ∧ HC N O (rotH h z) ∧ RC N X Y (rotH h z)
  fresh : Fresh N (fun _ _ => False) T
  rep : RepS O (gSd T)
  all : O = putAll (fun _ => []) T
theorem Tri.of {N q : Nat} {X Y : Nat → Int} (hg : allC N X Y = true) (hr : risC N X Y) (hl : isLn N X Y q) : Tri N X Y q (bldT N X Y q) (putAll (fun _ => []) (bldT N X Y q)) := by
  have fr : Fresh N (fun _ _ => False) (bldT N X Y q) := by
    unfold bldT
    split
    · trivial
    · have := hl.2.1; exact (bld_st hg hr hl (by omega) _ (by omega)).2.2
  have rp : RepS (putAll (fun _ => []) (bldT N X Y q)) (gSd (bldT N X Y q)) := rep_cong (rep_all _ rep_none fr) fun a b => ⟨fun h => h.elim False.elim id, .inr⟩
  refine ⟨hl, fun e => ?_, fun hq => ?_, fr, rp, rfl⟩
  · unfold bldT; rw [if_pos e]
  · have e : bldT N X Y q = (bld X Y q (N - 1 - q)).2 := by unfold bldT; rw [if_neg (by omega)]
    have em : q + (N - 1 - q) = N - 1 := by omega
    obtain ⟨H, B, _⟩ := bld_st hg hr hl hq (N - 1 - q) (by omega)
    have R := bld_brd hg hr hl hq (N - 1 - q) (by omega)
    rw [em] at H B
    rw [← e] at B R
    obtain ⟨z, z1, z2, z3⟩ := hc_of (N := N) H B R rp (by omega)
    exact ⟨_, z, e, rfl, H, B, R, z1, z2, z3, rc_of hg hr hl hq H z1 z2 (by have := B.hln; omega)⟩
theorem Build_tri (ao : Option Addr) (N cap : Nat) (X Y : Nat → Int) (w : World) (h : Pts w ao N cap X Y) (hN : N ≤ 4096) (hg : allC N X Y = true) (hr : risC N X Y) :
    Calls Try.prog 12 #[.slice ao N cap] w fun e w' => ∃ (t : Nat) (D : SD) (q : Nat) (T : List Tri3) (O : Nat → List (Nat × Nat)), e = .returned (.tuple #[ptr t 0, .int .i64 0]) ∧ Tri N X Y q T O ∧
      SM w' t D N X Y O (T.length : Nat) ∧ (∀ g, D.has t N g → w.heap.size ≤ g) ∧ Below w.heap.size w w' := by
  refine (Build_is ao N cap X Y w h hN hg hr).mono ?_
  rintro e w' ⟨t, D, q, he, hl, hs, h1, h2⟩
  exact ⟨t, D, q, _, _, he, Tri.of hg hr hl, hs, h1, h2⟩
/-- a block of whole points -/
theorem Pts.ofBlk {w : World} {b n : Nat} {c : Array Value} {X Y : Nat → Int} {ty : TypeId} (h : Blk w b c ty) (hn : n ≤ 9223372036854775807) (hc : ∀ i, i < n → c[i * 2]? = some (.int .i64 (X i)) ∧ c[i * 2 + 1]? = some (.int .i64 (Y i))) : Pts w (some ⟨b, 0, none⟩) n n X Y := by
  refine ⟨fun h0 => ⟨_, rfl, h.lt, fun i hi => ?_⟩, Nat.le_refl _, hn⟩
  obtain ⟨h1, h2⟩ := hc i hi
  have e : (⟨b, 0, none⟩ : Addr).add (i * 2) = ⟨b, i * 2, none⟩ := by unfold Addr.add; split <;> simp_all
  rw [e]
  exact ⟨(h.cell (i * 2)).trans h1, (h.cell (i * 2 + 1)).trans h2⟩
def lX (l : List Int) : Nat → Int := fun i => l.getD i 0
theorem aw_q {q : Nat} (h : isLn 4 (lX [0, 0, 2, 2]) (lX [0, 2, 0, 2]) q) : q = 2 := by
  have h1 : 2 ≤ q := by have := h.1; omega
  rcases Nat.lt_or_ge 2 q with h2 | h2
  · have := h.2.2.1 2 (Nat.le_refl _) h2
    exact absurd this (by decide)
  · omega
theorem aw_q2 {q : Nat} (h : isLn 3 (lX [0, 1, 2]) (lX [0, 0, 0]) q) : q = 3 := by
  have h1 : 2 ≤ q := by have := h.1; omega
  have h3 := h.2.1
  rcases Nat.lt_or_ge q 3 with h2 | h2
  · obtain rfl : q = 2 := by omega
    exact absurd (by decide) (h.2.2.2 h2)
  · omega
theorem aw_len : (bldT 4 (lX [0, 0, 2, 2]) (lX [0, 2, 0, 2]) 2).length = 2 ∧ (bld (lX [0, 0, 2, 2]) (lX [0, 2, 0, 2]) 2 1).1.length = 4 := by decide +kernel
theorem aw_1 : allC 4 (lX [0, 0, 2, 2]) (lX [0, 2, 0, 2]) = true ∧ risC 4 (lX [0, 0, 2, 2]) (lX [0, 2, 0, 2]) := by
  refine ⟨by decide, fun i hi => ?_⟩
  rcases (show i = 0 ∨ i = 1 ∨ i = 2 by omega) with rfl | rfl | rfl <;> decide
theorem aw_2 : allC 3 (lX [0, 1, 2]) (lX [0, 0, 0]) = true ∧ risC 3 (lX [0, 1, 2]) (lX [0, 0, 0]) := by
  refine ⟨by decide, fun i hi => ?_⟩
  rcases (show i = 0 ∨ i = 1 by omega) with rfl | rfl <;> decide
theorem aw_3 : allC 2 (lX [1, 0]) (lX [0, 0]) = true ∧ ¬ risC 2 (lX [1, 0]) (lX [0, 0]) := by
  refine ⟨by decide, fun h => absurd (h 0 (by omega)) (by decide)⟩
end Go.Proofs.Ytdlpfiiakmhnlaa

namespace Go.Proofs.Ytdlpfiiakmhnlaa
open Go.RowKit

theorem Tri.cyc {N q : Nat} {X Y : Nat → Int} {T : List Tri3} {O : Nat → List (Nat × Nat)} (h : Tri N X Y q T O) : Cyc O ∧ DomO N O ∧ (preO O N).length = T.length := by
  have hp : PutOk N (fun _ => []) T := putok_fresh _ rep_none h.fresh
  rw [h.all]
  refine ⟨Cyc.nil.all T hp, dom_all T Cyc.nil (fun a b c h => by cases h) hp, ?_⟩
  rw [pre_all T hp, pre_nil]; simp
/-- six numbers alike -/
@[go_sem] theorem run_eq6 (a b c d e f : Int) (w : World) :
    (Op.equalIn 10000 42 (.agg #[.int .i64 a, .int .i64 b, .int .i64 c, .int .i64 d, .int .i64 e, .int .i64 f]) (.agg #[.int .i64 a, .int .i64 b, .int .i64 c, .int .i64 d, .int .i64 e, .int .i64 f])).run Try.prog w = .ok true w := by
  have hu : Try.prog.underlying 42 = some (.array 3 41) := by kernel_rfl
  have hs : ∀ w, (sizeOf 41).run Try.prog w = .ok 2 w := fun w => by kernel_rfl
  have he : ∀ (a b : Int) w, (Op.equalIn 9999 41 (.agg #[.int .i64 a, .int .i64 b]) (.agg #[.int .i64 a, .int .i64 b])).run Try.prog w = .ok true w := fun a b w => by go_simp
  have hp0 : ∀ w, (part 41 #[.int .i64 a, .int .i64 b, .int .i64 c, .int .i64 d, .int .i64 e, .int .i64 f] 0).run Try.prog w = .ok (.agg #[.int .i64 a, .int .i64 b]) w := fun w => by kernel_rfl
  have hp2 : ∀ w, (part 41 #[.int .i64 a, .int .i64 b, .int .i64 c, .int .i64 d, .int .i64 e, .int .i64 f] 2).run Try.prog w = .ok (.agg #[.int .i64 c, .int .i64 d]) w := fun w => by kernel_rfl
  have hp4 : ∀ w, (part 41 #[.int .i64 a, .int .i64 b, .int .i64 c, .int .i64 d, .int .i64 e, .int .i64 f] 4).run Try.prog w = .ok (.agg #[.int .i64 e, .int .i64 f]) w := fun w => by kernel_rfl
  show (Op.equalIn (9999 + 1) _ _ _).run _ _ = _
  unfold Op.equalIn
  simp only [Sem.run_bind, run_underlying hu, Result.andThen_ok, hs]
  simp [List.range', he, hp0, hp2, hp4, Sem.run_bind]
end Go.Proofs.Ytdlpfiiakmhnlaa

namespace Go.Proofs.Ytdlpfiiakmhnlaa
open Go.RowKit
attribute [local go_sem] undef

/-- the way from a vertex to another one, and a point -/
def wyp (X Y : Nat → Int) (px py : Int) (a b : Nat) : Int := way (X a) (Y a) (X b) (Y b) px py
/-- the side to whose right a point lies -/
def bey (X Y : Nat → Int) (px py : Int) (a b c : Nat) : Option (Nat × Nat) :=
  if wyp X Y px py a b < 0 then some (a, b) else if wyp X Y px py b c < 0 then some (b, c) else if wyp X Y px py c a < 0 then some (c, a) else none
theorem tTurn_is (ax ay bx b_y cx cy r : Int) (h : way ax ay bx b_y cx cy = r) (w : World) :
    Calls Try.prog 75 #[pI ax ay, pI bx b_y, pI cx cy] w fun e w' => e = .returned (.int .i64 r) ∧ Below w.heap.size w w' := h ▸ Turn_any ax ay bx b_y cx cy w
set_option maxRecDepth 100000 in
set_option maxHeartbeats 4000000 in
theorem beyond_is (t : Nat) (D : SD) (N : Nat) (X Y : Nat → Int) (O : Nat → List (Nat × Nat)) (n px py : Int) (a b c : Nat) (w : World) (h : SM w t D N X Y O n) (ha : a < N) (hb_ : b < N) (hc : c < N) (R : Option (Nat × Nat)) (hR : bey X Y px py a b c = R) :
    Calls Try.prog 55 #[ptr t 0, tI a b c, pI px py] w fun e w' => e = .returned (.tuple #[.int .i64 ((R.map (·.1)).getD 0 : Nat), .int .i64 ((R.map (·.2)).getD 0 : Nat), .bool R.isSome]) ∧ Below w.heap.size w w' := by
  have HS := Lib.hid h
  have HRR := Lib.hid hR
  clear h hR
  go_enter Try.func55, Try.ntmps55
  go_wp2_with fail
  refine calls_w ?_
  intro V hV
  have kT : Hid (Blk V w.heap.size #[.int .i64 (a : Nat), .int .i64 (b : Nat), .int .i64 (c : Nat)] 36) := by rw [hV]; exact Lib.hid ((Blk.new w _ _).alloc _)
  have kP : Hid (Blk V (w.heap.size + 1) #[.int .i64 px, .int .i64 py] 41) := by rw [hV]; exact Lib.hid (Blk.new1 w _ _ _)
  have bV : Hid (Below w.heap.size w V) := by rw [hV]; exact Lib.hid (below_a2 _ _ _)
  obtain ⟨tb, etb⟩ : ∃ b, w.heap.size = b := ⟨_, rfl⟩
  obtain ⟨pb, epb⟩ : ∃ b, w.heap.size + 1 = b := ⟨_, rfl⟩
  rw [epb] at kP ⊢
  rw [etb] at kT ⊢
  clear hV etb epb
  refine (sides_is a b c V).mono ?_
  rintro e V2 ⟨rfl, hb⟩
  have kP2 := Lib.hid (kP.out.of hb)
  have b2 := Lib.hid (bV.out.trans (hb.mono bV.out.size))
  clear hb kT kP bV
  go_wp2_with fail
  go_loopg [13] 3 (fun gk s13 wr => ∃ k : Nat, s13 = .int .i64 (k : Nat) ∧ k ≤ 3 ∧ 3 - k ≤ gk ∧ Hid ((0 < k → 0 ≤ wyp X Y px py a b) ∧ (1 < k → 0 ≤ wyp X Y px py b c) ∧ (2 < k → 0 ≤ wyp X Y px py c a)) ∧ Hid (Blk wr pb #[.int .i64 px, .int .i64 py] 41) ∧ Hid (Below w.heap.size w wr))
  case atStart => exact ⟨0, rfl, by omega, by omega, Lib.hid ⟨fun h => absurd h (by omega), fun h => absurd h (by omega), fun h => absurd h (by omega)⟩, kP2, b2⟩
  case round =>
    clear kP2 b2
    obtain ⟨k, rfl, hk, hgk, HE, KP, HW⟩ := hrel
    rcases (show k = 0 ∨ k = 1 ∨ k = 2 ∨ k = 3 by omega) with rfl | rfl | rfl | rfl
    · have hix : ∀ w, Sem.run Try.prog (Instr.index 96 (sI a b c) (.int .i64 0)) w = .ok (tI a b c) w := fun w => side_at a b c 0 (by omega) w
      go_wp2_with fail
      refine name_world ?_
      intro W hW
      have KY : Hid (Blk W wr.heap.size #[.int .i64 (a : Nat), .int .i64 (b : Nat), .int .i64 (c : Nat)] 36) := by rw [hW]; exact Lib.hid (Blk.new wr _ _)
      have hbW : Below wr.heap.size wr W := by rw [hW]; exact below_a1 _ _
      have KP3 := Lib.hid (KP.out.of hbW)
      have HW3 := Lib.hid (HW.out.trans (hbW.mono HW.out.size))
      have HS3 := Lib.hid (HS.out.of HW3.out)
      obtain ⟨yb, eyb⟩ : ∃ b, wr.heap.size = b := ⟨_, rfl⟩
      rw [eyb] at KY ⊢
      clear hW hbW KP HW hix eyb
      have f0 := KY.out.cell 0
      have f1 := KY.out.cell 1
      have lf := KY.out.lt
      have p0 := KP3.out.cell 0
      have p1 := KP3.out.cell 1
      have lp := KP3.out.lt
      simp only [List.getElem?_toArray, List.getElem?_cons_zero, List.getElem?_cons_succ] at f0 f1 p0 p1
      obtain ⟨c0, _, _⟩ := HS3.out.c
      have lS := HS3.out.blk.lt
      have hsm := HS3.out.small
      have hcl := HS3.out.pts.capl
      have hcb := HS3.out.pts.capb
      obtain ⟨pa, hpa, hpt⟩ := HS3.out.pts.atP (by omega)
      rw [hpa] at c0
      have qa := hpt a ha
      have qb := hpt b hb_
      obtain ⟨ax, hax⟩ : ∃ v, X a = v := ⟨_, rfl⟩
      obtain ⟨ay, hay⟩ : ∃ v, Y a = v := ⟨_, rfl⟩
      obtain ⟨bx, hbx⟩ : ∃ v, X b = v := ⟨_, rfl⟩
      obtain ⟨b_y, hby⟩ : ∃ v, Y b = v := ⟨_, rfl⟩
      obtain ⟨r, hr⟩ : ∃ r, way ax ay bx b_y px py = r := ⟨_, rfl⟩
      have hwr : wyp X Y px py a b = r := by unfold wyp; rw [hax, hay, hbx, hby]; exact hr
      have HWR := Lib.hid hwr
      have HWY := Lib.hid hr
      rw [hax, hay] at qa
      rw [hbx, hby] at qb
      have qa0 := fun u => (qa u).1
      have qa1 := fun u => (qa u).2
      have qb0 := fun u => (qb u).1
      have qb1 := fun u => (qb u).2
      clear hax hay hbx hby hpt qa qb hpa hr hwr
      go_wp2_with fail
      refine wp_region_up W.heap.size 17 [(true, 0), (true, 1), (true, 2), (true, 3), (true, 4), (true, 5), (true, 6), (true, 7), (true, 8), (true, 9), (true, 10), (true, 11), (true, 12), (true, 13), (true, 14), (true, 15), (true, 16)] (by kernel_rfl) (by kernel_rfl) (fun _ _ d _ _ h => by cases d <;> exact h) ?_
      have hb : Below W.heap.size W W.drew := (Below.refl _ _).drew
      iterate 17
        first | refine wpS_takeL rfl rfl ?_ | refine wpS_takeN rfl ⟨_, rfl⟩ ?_
        go_big_quiet_step (rfl)
        refine wpQuiet_nil ?_
      refine wpS_nil ?_
      simp only [List.drop_succ_cons, List.drop_zero]
      go_wp2_with fail
      refine (tTurn_is ax ay bx b_y px py r HWY.out _).mono ?_
      rintro e w2 ⟨rfl, hn⟩
      have hb12 := hb.trans (hn.mono hb.size)
      have KY4 := Lib.hid (KY.out.of hb12)
      have KP4 := Lib.hid (KP3.out.of hb12)
      have HW4 := Lib.hid (HW3.out.trans (hb12.mono HW3.out.size))
      clear hb hn hb12 f0 f1 lf p0 p1 lp c0 lS qa0 qa1 qb0 qb1 KY KP3 HW3 HS3
      by_cases hr0 : r < 0
      · have HQ : Hid (wyp X Y px py a b < 0) := by rw [HWR.out]; exact Lib.hid hr0
        have hRe : R = some (a, b) := by
          rw [← HRR.out]
          unfold bey
          rw [if_pos HQ.out]
        have f0 := KY4.out.cell 0
        have f1 := KY4.out.cell 1
        have lf := KY4.out.lt
        simp only [List.getElem?_toArray, List.getElem?_cons_zero, List.getElem?_cons_succ] at f0 f1
        subst hRe
        go_wp2_with fail
        refine wp_region_up w2.heap.size 5 [(true, 0), (true, 1), (true, 2), (true, 3), (true, 4)] (by kernel_rfl) (by kernel_rfl) (fun _ _ d _ _ h => by cases d <;> exact h) ?_
        have hb : Below w2.heap.size w2 w2.drew := (Below.refl _ _).drew
        iterate 5
          refine wpS_takeL rfl rfl ?_
          go_big_quiet_step (rfl)
          refine wpQuiet_nil ?_
        refine wpS_nil ?_
        simp only [List.drop_succ_cons, List.drop_zero]
        have HW5 := Lib.hid (HW4.out.trans (hb.mono HW4.out.size))
        clear hb
        go_wp2
        simp [bodyPost, results, Try.results55, go_sem]
        exact HW5.out
      · have HQ : Hid (0 ≤ wyp X Y px py a b) := by rw [HWR.out]; exact Lib.hid (by omega)
        go_wp2_with fail
        go_roundg (3 - (0 + 1))
        case measure => omega
        case rel => exact ⟨0 + 1, by rfl, by omega, Nat.le_refl _, Lib.hid ⟨fun _ => HQ.out, fun h => absurd h (by omega), fun h => absurd h (by omega)⟩, KP4, HW4⟩
    · have hix : ∀ w, Sem.run Try.prog (Instr.index 96 (sI a b c) (.int .i64 1)) w = .ok (tI b c a) w := fun w => side_at a b c 1 (by omega) w
      go_wp2_with fail
      refine name_world ?_
      intro W hW
      have KY : Hid (Blk W wr.heap.size #[.int .i64 (b : Nat), .int .i64 (c : Nat), .int .i64 (a : Nat)] 36) := by rw [hW]; exact Lib.hid (Blk.new wr _ _)
      have hbW : Below wr.heap.size wr W := by rw [hW]; exact below_a1 _ _
      have KP3 := Lib.hid (KP.out.of hbW)
      have HW3 := Lib.hid (HW.out.trans (hbW.mono HW.out.size))
      have HS3 := Lib.hid (HS.out.of HW3.out)
      obtain ⟨yb, eyb⟩ : ∃ b, wr.heap.size = b := ⟨_, rfl⟩
      rw [eyb] at KY ⊢
      clear hW hbW KP HW hix eyb
      have f0 := KY.out.cell 0
      have f1 := KY.out.cell 1
      have lf := KY.out.lt
      have p0 := KP3.out.cell 0
      have p1 := KP3.out.cell 1
      have lp := KP3.out.lt
      simp only [List.getElem?_toArray, List.getElem?_cons_zero, List.getElem?_cons_succ] at f0 f1 p0 p1
      obtain ⟨c0, _, _⟩ := HS3.out.c
      have lS := HS3.out.blk.lt
      have hsm := HS3.out.small
      have hcl := HS3.out.pts.capl
      have hcb := HS3.out.pts.capb
      obtain ⟨pa, hpa, hpt⟩ := HS3.out.pts.atP (by omega)
      rw [hpa] at c0
      have qa := hpt b hb_
      have qb := hpt c hc
      obtain ⟨ax, hax⟩ : ∃ v, X b = v := ⟨_, rfl⟩
      obtain ⟨ay, hay⟩ : ∃ v, Y b = v := ⟨_, rfl⟩
      obtain ⟨bx, hbx⟩ : ∃ v, X c = v := ⟨_, rfl⟩
      obtain ⟨b_y, hby⟩ : ∃ v, Y c = v := ⟨_, rfl⟩
      obtain ⟨r, hr⟩ : ∃ r, way ax ay bx b_y px py = r := ⟨_, rfl⟩
      have hwr : wyp X Y px py b c = r := by unfold wyp; rw [hax, hay, hbx, hby]; exact hr
      have HWR := Lib.hid hwr
      have HWY := Lib.hid hr
      rw [hax, hay] at qa
      rw [hbx, hby] at qb
      have qa0 := fun u => (qa u).1
      have qa1 := fun u => (qa u).2
      have qb0 := fun u => (qb u).1
      have qb1 := fun u => (qb u).2
      clear hax hay hbx hby hpt qa qb hpa hr hwr
      go_wp2_with fail
      refine wp_region_up W.heap.size 17 [(true, 0), (true, 1), (true, 2), (true, 3), (true, 4), (true, 5), (true, 6), (true, 7), (true, 8), (true, 9), (true, 10), (true, 11), (true, 12), (true, 13), (true, 14), (true, 15), (true, 16)] (by kernel_rfl) (by kernel_rfl) (fun _ _ d _ _ h => by cases d <;> exact h) ?_
      have hb : Below W.heap.size W W.drew := (Below.refl _ _).drew
      iterate 17
        first | refine wpS_takeL rfl rfl ?_ | refine wpS_takeN rfl ⟨_, rfl⟩ ?_
        go_big_quiet_step (rfl)
        refine wpQuiet_nil ?_
      refine wpS_nil ?_
      simp only [List.drop_succ_cons, List.drop_zero]
      go_wp2_with fail
      refine (tTurn_is ax ay bx b_y px py r HWY.out _).mono ?_
      rintro e w2 ⟨rfl, hn⟩
      have hb12 := hb.trans (hn.mono hb.size)
      have KY4 := Lib.hid (KY.out.of hb12)
      have KP4 := Lib.hid (KP3.out.of hb12)
      have HW4 := Lib.hid (HW3.out.trans (hb12.mono HW3.out.size))
      clear hb hn hb12 f0 f1 lf p0 p1 lp c0 lS qa0 qa1 qb0 qb1 KY KP3 HW3 HS3
      by_cases hr0 : r < 0
      · have HQ : Hid (wyp X Y px py b c < 0) := by rw [HWR.out]; exact Lib.hid hr0
        have hRe : R = some (b, c) := by
          rw [← HRR.out]
          unfold bey
          rw [if_neg (by have := HE.out.1 (by omega); omega), if_pos HQ.out]
        have f0 := KY4.out.cell 0
        have f1 := KY4.out.cell 1
        have lf := KY4.out.lt
        simp only [List.getElem?_toArray, List.getElem?_cons_zero, List.getElem?_cons_succ] at f0 f1
        subst hRe
        go_wp2_with fail
        refine wp_region_up w2.heap.size 5 [(true, 0), (true, 1), (true, 2), (true, 3), (true, 4)] (by kernel_rfl) (by kernel_rfl) (fun _ _ d _ _ h => by cases d <;> exact h) ?_
        have hb : Below w2.heap.size w2 w2.drew := (Below.refl _ _).drew
        iterate 5
          refine wpS_takeL rfl rfl ?_
          go_big_quiet_step (rfl)
          refine wpQuiet_nil ?_
        refine wpS_nil ?_
        simp only [List.drop_succ_cons, List.drop_zero]
        have HW5 := Lib.hid (HW4.out.trans (hb.mono HW4.out.size))
        clear hb
        go_wp2
        simp [bodyPost, results, Try.results55, go_sem]
        exact HW5.out
      · have HQ : Hid (0 ≤ wyp X Y px py b c) := by rw [HWR.out]; exact Lib.hid (by omega)
        go_wp2_with fail
        go_roundg (3 - (1 + 1))
        case measure => omega
        case rel => exact ⟨1 + 1, by rfl, by omega, Nat.le_refl _, Lib.hid ⟨fun _ => HE.out.1 (by omega), fun _ => HQ.out, fun h => absurd h (by omega)⟩, KP4, HW4⟩
    · have hix : ∀ w, Sem.run Try.prog (Instr.index 96 (sI a b c) (.int .i64 2)) w = .ok (tI c a b) w := fun w => side_at a b c 2 (by omega) w
      go_wp2_with fail
      refine name_world ?_
      intro W hW
      have KY : Hid (Blk W wr.heap.size #[.int .i64 (c : Nat), .int .i64 (a : Nat), .int .i64 (b : Nat)] 36) := by rw [hW]; exact Lib.hid (Blk.new wr _ _)
      have hbW : Below wr.heap.size wr W := by rw [hW]; exact below_a1 _ _
      have KP3 := Lib.hid (KP.out.of hbW)
      have HW3 := Lib.hid (HW.out.trans (hbW.mono HW.out.size))
      have HS3 := Lib.hid (HS.out.of HW3.out)
      obtain ⟨yb, eyb⟩ : ∃ b, wr.heap.size = b := ⟨_, rfl⟩
      rw [eyb] at KY ⊢
      clear hW hbW KP HW hix eyb
      have f0 := KY.out.cell 0
      have f1 := KY.out.cell 1
      have lf := KY.out.lt
      have p0 := KP3.out.cell 0
      have p1 := KP3.out.cell 1
      have lp := KP3.out.lt
      simp only [List.getElem?_toArray, List.getElem?_cons_zero, List.getElem?_cons_succ] at f0 f1 p0 p1
      obtain ⟨c0, _, _⟩ := HS3.out.c
      have lS := HS3.out.blk.lt
      have hsm := HS3.out.small
      have hcl := HS3.out.pts.capl
      have hcb := HS3.out.pts.capb
      obtain ⟨pa, hpa, hpt⟩ := HS3.out.pts.atP (by omega)
      rw [hpa] at c0
      have qa := hpt c hc
      have qb := hpt a ha
      obtain ⟨ax, hax⟩ : ∃ v, X c = v := ⟨_, rfl⟩
      obtain ⟨ay, hay⟩ : ∃ v, Y c = v := ⟨_, rfl⟩
      obtain ⟨bx, hbx⟩ : ∃ v, X a = v := ⟨_, rfl⟩
      obtain ⟨b_y, hby⟩ : ∃ v, Y a = v := ⟨_, rfl⟩
      obtain ⟨r, hr⟩ : ∃ r, way ax ay bx b_y px py = r := ⟨_, rfl⟩
      have hwr : wyp X Y px py c a = r := by unfold wyp; rw [hax, hay, hbx, hby]; exact hr
      have HWR := Lib.hid hwr
      have HWY := Lib.hid hr
      rw [hax, hay] at qa
      rw [hbx, hby] at qb
      have qa0 := fun u => (qa u).1
      have qa1 := fun u => (qa u).2
      have qb0 := fun u => (qb u).1
      have qb1 := fun u => (qb u).2
      clear hax hay hbx hby hpt qa qb hpa hr hwr
      go_wp2_with fail
      refine wp_region_up W.heap.size 17 [(true, 0), (true, 1), (true, 2), (true, 3), (true, 4), (true, 5), (true, 6), (true, 7), (true, 8), (true, 9), (true, 10), (true, 11), (true, 12), (true, 13), (true, 14), (true, 15), (true, 16)] (by kernel_rfl) (by kernel_rfl) (fun _ _ d _ _ h => by cases d <;> exact h) ?_
      have hb : Below W.heap.size W W.drew := (Below.refl _ _).drew
      iterate 17
        first | refine wpS_takeL rfl rfl ?_ | refine wpS_takeN rfl ⟨_, rfl⟩ ?_
        go_big_quiet_step (rfl)
        refine wpQuiet_nil ?_
      refine wpS_nil ?_
      simp only [List.drop_succ_cons, List.drop_zero]
      go_wp2_with fail
      refine (tTurn_is ax ay bx b_y px py r HWY.out _).mono ?_
      rintro e w2 ⟨rfl, hn⟩
      have hb12 := hb.trans (hn.mono hb.size)
      have KY4 := Lib.hid (KY.out.of hb12)
      have KP4 := Lib.hid (KP3.out.of hb12)
      have HW4 := Lib.hid (HW3.out.trans (hb12.mono HW3.out.size))
      clear hb hn hb12 f0 f1 lf p0 p1 lp c0 lS qa0 qa1 qb0 qb1 KY KP3 HW3 HS3
      by_cases hr0 : r < 0
      · have HQ : Hid (wyp X Y px py c a < 0) := by rw [HWR.out]; exact Lib.hid hr0
        have hRe : R = some (c, a) := by
          rw [← HRR.out]
          unfold bey
          rw [if_neg (by have := HE.out.1 (by omega); omega), if_neg (by have := HE.out.2.1 (by omega); omega), if_pos HQ.out]
        have f0 := KY4.out.cell 0
        have f1 := KY4.out.cell 1
        have lf := KY4.out.lt
        simp only [List.getElem?_toArray, List.getElem?_cons_zero, List.getElem?_cons_succ] at f0 f1
        subst hRe
        go_wp2_with fail
        refine wp_region_up w2.heap.size 5 [(true, 0), (true, 1), (true, 2), (true, 3), (true, 4)] (by kernel_rfl) (by kernel_rfl) (fun _ _ d _ _ h => by cases d <;> exact h) ?_
        have hb : Below w2.heap.size w2 w2.drew := (Below.refl _ _).drew
        iterate 5
          refine wpS_takeL rfl rfl ?_
          go_big_quiet_step (rfl)
          refine wpQuiet_nil ?_
        refine wpS_nil ?_
        simp only [List.drop_succ_cons, List.drop_zero]
        have HW5 := Lib.hid (HW4.out.trans (hb.mono HW4.out.size))
        clear hb
        go_wp2
        simp [bodyPost, results, Try.results55, go_sem]
        exact HW5.out
      · have HQ : Hid (0 ≤ wyp X Y px py c a) := by rw [HWR.out]; exact Lib.hid (by omega)
        go_wp2_with fail
        go_roundg (3 - (2 + 1))
        case measure => omega
        case rel => exact ⟨2 + 1, by rfl, by omega, Nat.le_refl _, Lib.hid ⟨fun _ => HE.out.1 (by omega), fun _ => HE.out.2.1 (by omega), fun _ => HQ.out⟩, KP4, HW4⟩
    · have hRe : R = none := by
        rw [← HRR.out]
        unfold bey
        rw [if_neg (by have := HE.out.1 (by omega); omega), if_neg (by have := HE.out.2.1 (by omega); omega), if_neg (by have := HE.out.2.2 (by omega); omega)]
      subst hRe
      go_wp2
      simp [bodyPost, results, Try.results55, go_sem]
      exact HW.out
end Go.Proofs.Ytdlpfiiakmhnlaa

namespace Go.Proofs.Ytdlpfiiakmhnlaa
open Go.RowKit Go.Shelf
attribute [local go_sem] Oper.semAt_some

/-- an owned slice of triangles, told as tri.Tri -/
def TB (w : World) (base : Nat) (v : Value) (L : List Tri3) : Prop := w.ownsRow base 36 3 v L.length (tC L)
theorem TB.none {w : World} {base : Nat} : TB w base (.slice none 0 0) [] := ⟨rfl, .inl ⟨rfl, rfl⟩⟩
theorem TB.of {w w' : World} {base : Nat} {v : Value} {L : List Tri3} (h : TB w base v L) (hb : ∀ g, v.ownBlock = some g → w'.heap[g]? = w.heap[g]?) : TB w' base v L := by
  refine ⟨h.1, h.2.imp id ?_⟩
  rintro ⟨g, cap, cur, rfl, hbg, hh, r⟩
  exact ⟨g, cap, cur, rfl, hbg, (hb g rfl).trans hh, r⟩
theorem TB.lt {w : World} {base : Nat} {v : Value} {L : List Tri3} (h : TB w base v L) {g : Nat} (hg : v.ownBlock = some g) : base ≤ g ∧ g < w.heap.size := World.ownsRow.lt h g hg
set_option maxRecDepth 100000 in
set_option maxHeartbeats 2000000 in
theorem AppendSeq_is (bs t : Nat) (D : SD) (N : Nat) (X Y : Nat → Int) (O : Nat → List (Nat × Nat)) (n : Int) (L : List Tri3) (hL : preO O N = L) (hlen : L.length < 100000000) (w : World) (h : SM w t D N X Y O n) (hbs : Blk w bs #[ptr t 0] 25) :
    Calls Try.prog 79 #[.slice none 0 0, .func (.func 63) #[] #[ptr bs 0]] w fun e w' => ∃ v, e = .returned v ∧ TB w' w.heap.size v L ∧ Below w.heap.size w w' := by
  have HS := Lib.hid h
  have HLN := Lib.hid hlen
  have HBS := Lib.hid hbs
  have lbs := hbs.lt
  clear h hlen hbs
  refine (callsIn_wide (n := 3)).1 ?_
  refine callsIn_of_wp_marks Try.func79 rfl trivial ?_ rfl
  simp only [Try.ntmps79, List.size_toArray, List.length_cons, List.length_nil, Nat.reduceAdd, Nat.reduceSub, Array.replicate_succ, Array.replicate_zero, List.push_toArray, List.append_toArray, List.nil_append, List.cons_append]
  gi_wp2_with fail
  refine nameIn ?_
  intro V2 hV
  have kO2 : Blk V2 w.heap.size #[.slice none 0 0] 45 := by rw [hV]; exact Blk.new w _ _
  have hbw2 : Below w.heap.size w V2 := by rw [hV]; exact below_a1 _ _
  have kS : Blk V2 bs #[ptr t 0] 25 := HBS.out.of hbw2
  have S2 := Lib.hid (HS.out.of hbw2)
  have z1 := kO2.lt
  have z2 := kS.lt
  have zt := HS.out.blk.lt
  obtain ⟨ob, eob⟩ : ∃ b, w.heap.size = b := ⟨_, rfl⟩
  have o1 : bs < ob := by omega
  have o2 : w.heap.size ≤ ob := by omega
  have o3 : ob < V2.heap.size := by omega
  rw [eob] at kO2
  rw [show w.heap.size = ob from eob]
  clear hV eob z1
  have hwV := hbw2.size
  have zt2 : t < w.heap.size := HS.out.blk.lt
  refine wpIn_rangeX (m := 1) (gf := 63) (lb := #[ptr bs 0]) (N := L.length) (encs := allE L) (Kp := fun W => Blk W bs #[ptr t 0] 25 ∧ SM W t D N X Y O n) rfl (fun args w => by go_simp) (All1_tells bs t D N X Y O n L hL _) (fun _ => rfl)
    (fun G k W => ∃ v, Blk W ob #[v] 45 ∧ TB W (V2.heap.size + 2) v (L.take k) ∧ Blk W bs #[ptr t 0] 25 ∧ Below w.heap.size w W ∧ ∀ g, G g ↔ v.ownBlock = some g)
    (fun _ _ _ => False) ?hg ?stable (fun _ _ _ _ h _ => h.elim) ?keeps ?start ?round ?done (fun _ _ _ _ _ h _ => h.elim)
  case hg =>
    rintro G k W ⟨v, j1, j2, j3, j4, j5⟩ g hg
    exact j2.lt ((j5 g).1 hg)
  case stable =>
    rintro G k W W' ⟨v, j1, j2, j3, j4, j5⟩ ⟨hbl, hbg⟩
    exact ⟨v, j1.below hbl (by omega), j2.of fun g hg => hbg g ((j5 g).2 hg) (j2.lt hg).2, j3.below hbl (by omega), j4.trans (hbl.mono (by omega)), j5⟩
  case keeps =>
    rintro G k W ⟨v, j1, j2, j3, j4, j5⟩
    exact ⟨j3, HS.out.of j4⟩
  case start => exact ⟨_, kO2, TB.none, kS, hbw2, fun g => ⟨fun h => h.elim, fun h => by cases h⟩⟩
  case round =>
    rintro l2 D2 k G W2 hk ⟨v, j1, j2, j3, j4, j5⟩ g1 g2 g3 g4
    obtain ⟨⟨a, b, c⟩, hx⟩ : ∃ x, L[k]? = some x := ⟨_, List.getElem?_eq_getElem hk⟩
    have hE : allE L k = #[tI a b c] := by unfold allE; rw [List.getD_eq_getElem?_getD, hx]; rfl
    rw [hE]
    have JJ := Lib.hid (And.intro j1 (And.intro j2 (And.intro j3 (And.intro j4 j5))))
    have HX := Lib.hid hx
    clear j1 j2 j3 j4 j5 hE hx
    gi_wp2_with fail
    have ha1 := below_a1 W2 (.cells #[.int .i64 (a : Nat), .int .i64 (b : Nat), .int .i64 (c : Nat)] 36)
    refine ⟨⟨⟨ha1.block _ g3, ha1.block _ g4⟩, .ofAbove (.ofBelow ha1)⟩, ?_⟩
    intro W3 hW3
    obtain ⟨j1, j2, j3, j4, j5⟩ := JJ.out
    have kT : Blk W3 W2.heap.size #[.int .i64 (a : Nat), .int .i64 (b : Nat), .int .i64 (c : Nat)] 36 := (Blk.new W2 _ _).outl hW3 (by simp; omega)
    have kO3 : Blk W3 ob #[v] 45 := (j1.of ha1).outl hW3 (by simp; omega)
    have KS3 := Lib.hid (show Blk W3 bs #[ptr t 0] 25 from (j3.of ha1).outl hW3 (by simp; omega))
    have T3 : TB W3 (V2.heap.size + 2) v (L.take k) := j2.of fun g hg => by
      have := j2.lt hg
      exact (hW3.block g (by simp; omega) (by simp; omega)).trans (ha1.block g this.2)
    have B3 := Lib.hid (show Below w.heap.size w W3 from (j4.trans (ha1.mono (by have := j4.size; omega))).trans (hW3.below (by have := j4.size; simp; omega) (by simp; omega)))
    have hl : (L.take k).length = k := by rw [List.length_take]; omega
    unfold TB at T3
    rw [hl] at T3
    have T3L := Lib.hid T3
    have x0 := kO3.cell 0
    have t0 := kT.cell 0
    have t1 := kT.cell 1
    have t2 := kT.cell 2
    simp only [List.getElem?_toArray, List.getElem?_cons_zero, List.getElem?_cons_succ] at x0 t0 t1 t2
    have lO := kO3.lt
    have lT := kT.lt
    have KO3 := Lib.hid kO3
    have J5 := Lib.hid j5
    have hsz3 : V2.heap.size + 2 ≤ W3.heap.size := by have := hW3.size; simp at this; omega
    obtain ⟨i0, hi, hz0, hz1, hz2⟩ := info_parts info_tr
    clear j1 j2 j3 j4 j5 JJ kT kO3 hl ha1 hW3
    have hown := own_belowT T3L.out (below_a1 W3 (.cells #[.int .i64 (a : Nat), .int .i64 (b : Nat), .int .i64 (c : Nat)] 36))
    gi_wp2_with (gi_at_builtin; go_loud (refine wpListIn_append_own_at _ rfl _ _ 45 rfl (V2.heap.size + 2) 36 i0 (.agg #[.int .i64 0, .int .i64 0, .int .i64 0]) 3 24 Try.underlying45 hi hz0 hz1 hz2 rfl (by decide) v k (tC (L.take k)) rfl hown ⟨W3.heap.size, 0, none⟩ 1 1 [.int .i64 (a : Nat), .int .i64 (b : Nat), .int .i64 (c : Nat)] rfl rfl ?c1 ?c2 ?c3 ?c4 ?c5 ?_))
    case c1 =>
      intro j u hj
      match j, hj with
      | 0, hj => simp at hj; subst hj; exact (Blk.new W3 _ _).cell 0
      | 1, hj => simp at hj; subst hj; exact (Blk.new W3 _ _).cell 1
      | 2, hj => simp at hj; subst hj; exact (Blk.new W3 _ _).cell 2
      | j + 3, hj => simp at hj
    case c2 => intro u hu; simp at hu; rcases hu with rfl | rfl | rfl <;> rfl
    case c3 => unfold maxLen; have := HLN.out; omega
    case c4 => have := HLN.out; omega
    case c5 => simp; omega
    intro v1 w1 own1 gr1 _ hat
    obtain ⟨aa, ll, cc, hv1⟩ : ∃ aa ll cc, v1 = .slice aa ll cc := by rcases own1.2 with ⟨e, _⟩ | ⟨g, cap, cur, e, _⟩ <;> exact ⟨_, _, _, e⟩
    subst hv1
    have hsa : (W3.alloc (.cells #[.int .i64 (a : Nat), .int .i64 (b : Nat), .int .i64 (c : Nat)] 36)).heap.size = W3.heap.size + 1 := by simp
    have hown2 : ∀ g, v.ownBlock = some g → V2.heap.size + 2 ≤ g := fun g hg => (World.ownsRow.lt T3L.out g hg).1
    have hW1 : ∀ g, g < W3.heap.size → v.ownBlock ≠ some g → w1.heap[g]? = W3.heap[g]? := fun g h1 h2 => (gr1.block g (by omega) (fun e => h2 e.symm)).trans ((below_a1 W3 _).block g h1)
    have hWf : ∀ g, g ≠ ob → (w1.setCell ⟨ob, 0, none⟩ (.slice aa ll cc)).heap[g]? = w1.heap[g]? := fun g h => Below.heap_setCell w1 ⟨ob, 0, none⟩ (.slice aa ll cc) g h
    have hss : W3.heap.size ≤ w1.heap.size := by have := gr1.size; omega
    have hsf : (w1.setCell ⟨ob, 0, none⟩ (.slice aa ll cc)).heap.size = w1.heap.size := by simp [World.setCell]
    have KO1 : Blk w1 ob #[v] 45 := (hW1 ob lO (fun e => by have := hown2 _ e; omega)).trans KO3.out
    have x1 := KO1.cell 0
    have f1 := KO1.free 0
    have l1 := KO1.lt
    simp only [List.getElem?_toArray, List.getElem?_cons_zero] at x1
    have GG : Hid ((Fix2 l2 D2 W3 (w1.setCell ⟨ob, 0, none⟩ (.slice aa ll cc)) ∧ ∃ G' : Nat → Prop, (∀ g, G' g → G g ∨ W3.heap.size ≤ g) ∧ ∃ v, Blk (w1.setCell ⟨ob, 0, none⟩ (.slice aa ll cc)) ob #[v] 45 ∧ TB (w1.setCell ⟨ob, 0, none⟩ (.slice aa ll cc)) (V2.heap.size + 2) v (L.take (k + 1)) ∧ Blk (w1.setCell ⟨ob, 0, none⟩ (.slice aa ll cc)) bs #[ptr t 0] 25 ∧ Below w.heap.size w (w1.setCell ⟨ob, 0, none⟩ (.slice aa ll cc)) ∧ ∀ g, G' g ↔ v.ownBlock = some g) ∧ AboveX (V2.heap.size + 2) G W3 (w1.setCell ⟨ob, 0, none⟩ (.slice aa ll cc))) := by
      have fx : ∀ g, g < W3.heap.size → v.ownBlock ≠ some g → g ≠ ob → (w1.setCell ⟨ob, 0, none⟩ (.slice aa ll cc)).heap[g]? = W3.heap[g]? := fun g h1 h2 h3 => (hWf g h3).trans (hW1 g h1 h2)
      have nO : ∀ g, g < V2.heap.size + 2 → v.ownBlock ≠ some g := fun g h e => by have := hown2 g e; omega
      refine Lib.hid ⟨⟨⟨fx l2 (by omega) (nO _ (by omega)) (by omega), fx D2 (by omega) (nO _ (by omega)) (by omega)⟩, fun g => (Value.slice aa ll cc).ownBlock = some g, fun g hg => ?_, .slice aa ll cc, KO1.put 0 (.slice aa ll cc), ?_, (fx bs KS3.out.lt (nO _ (by omega)) (by omega)).trans KS3.out, ?_, fun g => Iff.rfl⟩, ?_⟩
      · rcases hat with e | e
        · exact .inl ((J5.out g).2 (by rw [← e]; exact hg))
        · rw [e] at hg; injection hg with hg; exact .inr (by omega)
      · have h1 : TB w1 (V2.heap.size + 2) (.slice aa ll cc) (L.take (k + 1)) := by
          have e : L.take (k + 1) = L.take k ++ [(a, b, c)] := by rw [List.take_add_one, HX.out]; rfl
          unfold TB
          rw [e, tC_app, List.length_append, List.length_take, show min k L.length = k by omega]
          exact own1
        exact h1.of fun g hg => hWf g (by have := (h1.lt hg).1; omega)
      · have gb : Below w.heap.size W3 (w1.setCell ⟨ob, 0, none⟩ (.slice aa ll cc)) := ⟨gr1.os, gr1.tape, gr1.output, by omega, fun g hg => fx g (by omega) (nO g (by omega)) (by omega)⟩
        exact B3.out.trans gb
      · exact ⟨by omega, fun g h1 h2 h3 => fx g h2 (fun e => h3 ((J5.out g).2 e)) (by omega)⟩
    clear own1 gr1 hat hown hsa hW1 hWf KO1 x0 t0 t1 t2 T3L
    gi_wp2
    exact GG.out
  case done =>
    rintro Dd G V5 g1 ⟨v, j1, j2, j3, j4, j5⟩ hD
    have c0 := j1.cell 0
    simp only [List.getElem?_toArray, List.getElem?_cons_zero] at c0
    rw [List.take_length] at j2
    have l0 := j1.lt
    have JJ := Lib.hid (And.intro j2 j4)
    clear j1 j2 j3 j4 j5
    gi_wp2
    refine ⟨by simp, .inl ⟨_, _, rfl, run_takeDeferred hD, ?_⟩⟩
    simp only [LeavesInM, LeavesIn]
    refine ⟨v, by simp [results, Try.results79, go_sem], v, rfl, ?_, ?_⟩
    · have h1 : TB (V5.putObj Dd (.deferred none)) (V2.heap.size + 2) v L := JJ.out.1.of fun g hg => World.putObj_heap_other (by have := (JJ.out.1.lt hg).1; omega)
      rcases h1.2 with h2 | ⟨g, cap, cur, e1, e2, e3, e4⟩
      · exact ⟨h1.1, .inl h2⟩
      · exact ⟨h1.1, .inr ⟨g, cap, cur, e1, by omega, e3, e4⟩⟩
    · exact JJ.out.2.trans ((putObj_out V5 Dd _).below (by have := JJ.out.2.size; omega) (by simp; omega))
end Go.Proofs.Ytdlpfiiakmhnlaa

namespace Go.Proofs.Ytdlpfiiakmhnlaa
open Go.RowKit
attribute [local go_sem] undef

theorem Collect_is (bs t : Nat) (D : SD) (N : Nat) (X Y : Nat → Int) (O : Nat → List (Nat × Nat)) (n : Int) (L : List Tri3) (hL : preO O N = L) (hlen : L.length < 100000000) (w : World) (h : SM w t D N X Y O n) (hbs : Blk w bs #[ptr t 0] 25) :
    Calls Try.prog 54 #[.func (.func 63) #[] #[ptr bs 0]] w fun e w' => ∃ v, e = .returned v ∧ TB w' w.heap.size v L ∧ Below w.heap.size w w' := by
  go_enter Try.func54, Try.ntmps54
  go_wp2_with fail
  refine (AppendSeq_is bs t D N X Y O n L hL hlen w h hbs).mono ?_
  rintro e w2 ⟨v, rfl, h1, h2⟩
  go_wp2
  go_ret
  exact ⟨v, rfl, h1, h2⟩
/-- what Find may tell -/
def fdOk (N : Nat) (X Y : Nat → Int) (O : Nat → List (Nat × Nat)) (px py : Int) : Option Tri3 → Prop
  | some x => x ∈ preO O N ∧ bey X Y px py x.1 x.2.1 x.2.2 = none ∧ rp px py = true
  | none => rp px py = false ∨ ∀ x, x ∈ preO O N → bey X Y px py x.1 x.2.1 x.2.2 ≠ none
def fdV : Option Tri3 → Value
  | some x => tI x.1 x.2.1 x.2.2
  | none => tI 0 0 0
theorem bey_none {X Y : Nat → Int} {px py : Int} {a b c : Nat} : bey X Y px py a b c = none ↔ 0 ≤ wyp X Y px py a b ∧ 0 ≤ wyp X Y px py b c ∧ 0 ≤ wyp X Y px py c a := by
  unfold bey
  by_cases h1 : wyp X Y px py a b < 0
  · rw [if_pos h1]; constructor
    · intro h; cases h
    · omega
  · rw [if_neg h1]
    by_cases h2 : wyp X Y px py b c < 0
    · rw [if_pos h2]; constructor
      · intro h; cases h
      · omega
    · rw [if_neg h2]
      by_cases h3 : wyp X Y px py c a < 0
      · rw [if_pos h3]; constructor
        · intro h; cases h
        · omega
      · rw [if_neg h3]; constructor
        · intro _; omega
        · intro _; rfl
theorem bey_lst {X Y : Nat → Int} {px py : Int} {a b c : Nat} (h : bey X Y px py a b c = none) : bey X Y px py (lst a b c).1 (lst a b c).2.1 (lst a b c).2.2 = none := by
  rw [bey_none] at h ⊢
  unfold lst
  split
  · exact h
  · split
    · exact ⟨h.2.1, h.2.2, h.1⟩
    · exact ⟨h.2.2, h.1, h.2.1⟩
theorem lst_mem {N : Nat} {O : Nat → List (Nat × Nat)} (hO : Cyc O) (hd : DomO N O) {a b c : Nat} (h : lookH (O a) b = some c) : lst a b c ∈ preO O N := by
  have l1 := hO.rot _ _ _ h
  have l2 := hO.rot _ _ _ l1
  have n0 := hO.ne _ _ _ h
  have n1 := hO.ne _ _ _ l1
  have n2 := hO.ne _ _ _ l2
  obtain ⟨d1, d2, d3⟩ := hd _ _ _ h
  unfold lst
  split
  · rename_i h1; exact mem_preO.2 ⟨d1, (look_mem (hO.srt a)).2 h, h1.1, h1.2⟩
  · split
    · rename_i h1; exact mem_preO.2 ⟨d2, (look_mem (hO.srt b)).2 l1, h1.2, h1.1⟩
    · exact mem_preO.2 ⟨d3, (look_mem (hO.srt c)).2 l2, by show c < a; omega, by show c < b; omega⟩
theorem bey_cases {X Y : Nat → Int} {px py : Int} {a b c x y : Nat} (h : bey X Y px py a b c = some (x, y)) : (x = a ∧ y = b) ∨ (x = b ∧ y = c) ∨ (x = c ∧ y = a) := by
  unfold bey at h
  split at h
  · injection h with h; injection h with h1 h2; exact .inl ⟨h1.symm, h2.symm⟩
  · split at h
    · injection h with h; injection h with h1 h2; exact .inr (.inl ⟨h1.symm, h2.symm⟩)
    · split at h
      · injection h with h; injection h with h1 h2; exact .inr (.inr ⟨h1.symm, h2.symm⟩)
      · cases h
theorem noGoto_world {Q : Exit → Act → World → Prop} {a : Act} {w : World} (h : ∀ W, W = w → Q .ret a W) : Exit.noGoto Q .ret a w := h w rfl
theorem Trs.set3 {w : World} {g b cap : Nat} {L : List Tri3} (h : Trs w (some ⟨g, 0, none⟩) cap L) (hne : g ≠ b) (v0 v1 v2 : Value) : Trs (((w.setCell ⟨b, 0, none⟩ v0).setCell ⟨b, 1, none⟩ v1).setCell ⟨b, 2, none⟩ v2) (some ⟨g, 0, none⟩) cap L := by
  have hh : (((w.setCell ⟨b, 0, none⟩ v0).setCell ⟨b, 1, none⟩ v1).setCell ⟨b, 2, none⟩ v2).heap[g]? = w.heap[g]? :=
    ((Below.heap_setCell _ ⟨b, 2, none⟩ v2 g hne).trans (Below.heap_setCell _ ⟨b, 1, none⟩ v1 g hne)).trans (Below.heap_setCell _ ⟨b, 0, none⟩ v0 g hne)
  have hc : ∀ o, (((w.setCell ⟨b, 0, none⟩ v0).setCell ⟨b, 1, none⟩ v1).setCell ⟨b, 2, none⟩ v2).cell? ⟨g, o, none⟩ = w.cell? ⟨g, o, none⟩ := fun o => World.cell?_of_block (w := w) hh
  refine ⟨fun h0 => ?_, h.capl, h.capb⟩
  obtain ⟨g', e, hg, hcell⟩ := h.ptr h0
  injection e with e
  injection e with e
  subst e
  refine ⟨g, rfl, by rw [size_set, size_set, size_set]; exact hg, fun j x hx => ?_⟩
  rw [hc, hc, hc]
  exact hcell j x hx
theorem PRight_is (x y : Int) (r : Bool) (h : rp x y = r) (w : World) : Calls Try.prog 40 #[pI x y] w fun e w' => e = .returned (.bool r) ∧ Below w.heap.size w w' := h ▸ PtRight_any x y w
set_option maxRecDepth 100000 in
set_option maxHeartbeats 8000000 in
theorem Find_is (t : Nat) (D : SD) (N : Nat) (X Y : Nat → Int) (O : Nat → List (Nat × Nat)) (n px py : Int) (w : World) (h : SM w t D N X Y O n) (hO : Cyc O) (hd : DomO N O) (hlen : (preO O N).length < 100000000) :
    Calls Try.prog 23 #[ptr t 0, pI px py] w fun e w' => ∃ R, e = .returned (.tuple #[fdV R, .bool R.isSome]) ∧ fdOk N X Y O px py R ∧ Below w.heap.size w w' := by
  have HS := Lib.hid h
  have CY := Lib.hid hO
  have DM := Lib.hid hd
  obtain ⟨L, hL⟩ : ∃ L, preO O N = L := ⟨_, rfl⟩
  rw [hL] at hlen
  have HLL := Lib.hid hL
  clear h hO hd hL
  go_enter Try.func23, Try.ntmps23
  go_wp2_with fail
  apply wp_scope_straight
  go_wp2_with fail
  refine calls_w ?_
  intro V hV
  have kP : Hid (Blk V w.heap.size #[.int .i64 px, .int .i64 py] 41) := by rw [hV]; exact Lib.hid ((Blk.new w _ _).alloc _)
  have kZ : Hid (Blk V (w.heap.size + 1) #[.int .i64 0, .int .i64 0, .int .i64 0] 36) := by rw [hV]; exact Lib.hid (Blk.new1 w _ _ _)
  have bV : Hid (Below w.heap.size w V) := by rw [hV]; exact Lib.hid (below_a2 _ _ _)
  obtain ⟨pb, epb⟩ : ∃ b, w.heap.size = b := ⟨_, rfl⟩
  obtain ⟨zb, ezb⟩ : ∃ b, w.heap.size + 1 = b := ⟨_, rfl⟩
  rw [ezb] at kZ ⊢
  rw [epb] at kP ⊢
  have hzb : w.heap.size ≤ zb := by omega
  have hpz : pb < zb := by omega
  clear hV epb ezb
  obtain ⟨g, hg⟩ : ∃ g, rp px py = g := ⟨_, rfl⟩
  have HG := Lib.hid hg
  refine (PRight_is px py g HG.out V).mono ?_
  rintro e V2 ⟨rfl, hb⟩
  have kP2 := Lib.hid (kP.out.of hb)
  have kZ2 := Lib.hid (kZ.out.of hb)
  have b2 := Lib.hid (bV.out.trans (hb.mono bV.out.size))
  clear hb kP kZ bV hg
  cases g with
  | false =>
    have z0 := kZ2.out.cell 0
    have z1 := kZ2.out.cell 1
    have z2 := kZ2.out.cell 2
    have y0 := kZ2.out.free 0
    have y1 := kZ2.out.free 1
    have y2 := kZ2.out.free 2
    have lz := kZ2.out.lt
    simp only [List.getElem?_toArray, List.getElem?_cons_zero, List.getElem?_cons_succ] at z0 z1 z2
    go_wp2
    refine noGoto_world ?_
    intro W hW
    show bodyPost Try.prog Try.f23 _ _ _ W
    have kW : Blk W zb #[.int .i64 0, .int .i64 0, .int .i64 0] 36 := by rw [hW]; exact kZ2.out.put3c (.int .i64 0) (.int .i64 0) (.int .i64 0)
    have bW : Below w.heap.size w W := by rw [hW]; exact below_put3 b2.out hzb (.int .i64 0) (.int .i64 0) (.int .i64 0)
    clear hW z0 z1 z2 y0 y1 y2 lz
    have z0 := kW.cell 0
    have z1 := kW.cell 1
    have z2 := kW.cell 2
    simp only [List.getElem?_toArray, List.getElem?_cons_zero, List.getElem?_cons_succ] at z0 z1 z2
    simp [bodyPost, results, Try.results23, go_sem, z0, z1, z2]
    exact ⟨none, ⟨rfl, rfl⟩, .inl HG.out, bW⟩
  | true =>
    go_wp2_with fail
    refine (All_is t V2).mono ?_
    rintro e V3 ⟨rfl, kS, hb⟩
    have kP3 := Lib.hid (kP2.out.of hb)
    have kZ3 := Lib.hid (kZ2.out.of hb)
    have b3 := Lib.hid (b2.out.trans (hb.mono b2.out.size))
    clear hb kP2 kZ2 b2
    go_wp2_with fail
    refine (Collect_is V2.heap.size t D N X Y O n L HLL.out hlen V3 (HS.out.of b3.out) kS).mono ?_
    rintro e V4 ⟨v, rfl, htb, hb⟩
    obtain ⟨ao4, cap4, rfl, P4⟩ := Trs.ofRow htb
    have PP4 := Lib.hid P4
    have hcap := P4.capl
    have hcapb := P4.capb
    have kP4 := Lib.hid (kP3.out.of hb)
    have kZ4 := Lib.hid (kZ3.out.of hb)
    have b4 := Lib.hid (b3.out.trans (hb.mono b3.out.size))
    obtain ⟨m, hm⟩ : ∃ m, L.length = m := ⟨_, rfl⟩
    have HM := Lib.hid hm
    rw [hm] at hcap hlen ⊢
    clear hb htb P4 kP3 kZ3 b3 kS hm
    rcases Nat.eq_zero_or_pos m with hm0 | hm0
    · subst hm0
      have z0 := kZ4.out.cell 0
      have z1 := kZ4.out.cell 1
      have z2 := kZ4.out.cell 2
      have y0 := kZ4.out.free 0
      have y1 := kZ4.out.free 1
      have y2 := kZ4.out.free 2
      have lz := kZ4.out.lt
      simp only [List.getElem?_toArray, List.getElem?_cons_zero, List.getElem?_cons_succ] at z0 z1 z2
      go_wp2
      refine noGoto_world ?_
      intro W hW
      show bodyPost Try.prog Try.f23 _ _ _ W
      have kW : Blk W zb #[.int .i64 0, .int .i64 0, .int .i64 0] 36 := by rw [hW]; exact kZ4.out.put3c (.int .i64 0) (.int .i64 0) (.int .i64 0)
      have bW : Below w.heap.size w W := by rw [hW]; exact below_put3 b4.out hzb (.int .i64 0) (.int .i64 0) (.int .i64 0)
      clear hW z0 z1 z2 y0 y1 y2 lz
      have z0 := kW.cell 0
      have z1 := kW.cell 1
      have z2 := kW.cell 2
      simp only [List.getElem?_toArray, List.getElem?_cons_zero, List.getElem?_cons_succ] at z0 z1 z2
      simp [bodyPost, results, Try.results23, go_sem, z0, z1, z2]
      refine ⟨none, ⟨rfl, rfl⟩, .inr fun x hx => ?_, bW⟩
      rw [HLL.out, List.eq_nil_of_length_eq_zero HM.out] at hx
      cases hx
    · obtain ⟨gg, rfl, hgg, hcell⟩ := PP4.out.ptr (by rw [HM.out]; exact hm0)
      obtain ⟨⟨x0, x1, x2⟩, hx⟩ : ∃ x, L[0]? = some x := ⟨_, List.getElem?_eq_getElem (show 0 < L.length by rw [HM.out]; exact hm0)⟩
      obtain ⟨q0, q1, q2⟩ := hcell 0 _ hx
      simp only [Nat.zero_mul, Nat.zero_add] at q0 q1 q2
      have hl0 : lookH (O x0) x1 = some x2 := (look_mem (CY.out.srt x0)).1 (mem_preO.1 (show (x0, x1, x2) ∈ preO O N by rw [HLL.out]; exact List.mem_iff_getElem?.2 ⟨0, hx⟩)).2.1
      have HL0 := Lib.hid hl0
      have hm0' : ¬ m = 0 := by omega
      have hm0b : ((m : Int) == 0) = false := by simp; omega
      have hm0i : (0 : Int) < (m : Int) := by omega
      clear hcell hx hl0
      go_wp2_with fail
      apply wp_label
      go_wp2_with fail
      refine name_world ?_
      intro V5 hV5
      have kT5 : Hid (Blk V5 V4.heap.size #[.int .i64 (x0 : Nat), .int .i64 (x1 : Nat), .int .i64 (x2 : Nat)] 36) := by rw [hV5]; exact Lib.hid (Blk.new V4 _ _)
      have hb5 : Below V4.heap.size V4 V5 := by rw [hV5]; exact below_a1 _ _
      have kP5 := Lib.hid (kP4.out.of hb5)
      have kZ5 := Lib.hid (kZ4.out.of hb5)
      have b5 := Lib.hid (b4.out.trans (hb5.mono b4.out.size))
      have PP5 := Lib.hid (PP4.out.of hb5)
      have HS5 := Lib.hid (HS.out.of b5.out)
      obtain ⟨tb, etb⟩ : ∃ b, V4.heap.size = b := ⟨_, rfl⟩
      have htz : zb < tb := by have := kZ4.out.lt; omega
      have hgt : gg < tb := by omega
      rw [etb] at kT5 ⊢
      have hst : t < tb := by have := (HS.out.of b4.out).blk.lt; omega
      clear hV5 hb5 q0 q1 q2 kP4 kZ4 b4 PP4 hgg
      have hwt : w.heap.size ≤ tb := by omega
      go_loopg [34] m (fun gk s34 wr => ∃ (k a b c : Nat), s34 = .int .i64 (k : Nat) ∧ k ≤ m ∧ m - k ≤ gk ∧ Hid (lookH (O a) b = some c) ∧ Hid (Blk wr tb #[.int .i64 (a : Nat), .int .i64 (b : Nat), .int .i64 (c : Nat)] 36) ∧ Hid (Blk wr pb #[.int .i64 px, .int .i64 py] 41) ∧ Hid (Blk wr zb #[.int .i64 0, .int .i64 0, .int .i64 0] 36) ∧ Hid (Trs wr (some ⟨gg, 0, none⟩) cap4 L) ∧ Hid (Below w.heap.size w wr))
      case atStart => exact ⟨0, x0, x1, x2, rfl, by omega, by omega, HL0, kT5, kP5, kZ5, PP5, b5⟩
      case round =>
        clear kT5 kP5 kZ5 PP5 b5 HS5 HL0
        obtain ⟨k, a, b, c, rfl, hk, hgk, HLK, KT, KP, KZ, PT, HW⟩ := hrel
        by_cases hlt : k < m
        · obtain ⟨haN, hbN, hcN⟩ := DM.out _ _ _ HLK.out
          have f0 := KT.out.cell 0
          have f1 := KT.out.cell 1
          have f2 := KT.out.cell 2
          have p0 := KP.out.cell 0
          have p1 := KP.out.cell 1
          simp only [List.getElem?_toArray, List.getElem?_cons_zero, List.getElem?_cons_succ] at f0 f1 f2 p0 p1
          obtain ⟨R, hR⟩ : ∃ R, bey X Y px py a b c = R := ⟨_, rfl⟩
          have HRR := Lib.hid hR
          clear hR
          go_wp2_with fail
          refine (beyond_is t D N X Y O n px py a b c wr (HS.out.of HW.out) haN hbN hcN R HRR.out).mono ?_
          rintro e V6 ⟨rfl, hb⟩
          have KT6 := Lib.hid (KT.out.of hb)
          have KP6 := Lib.hid (KP.out.of hb)
          have KZ6 := Lib.hid (KZ.out.of hb)
          have PT6 := Lib.hid (PT.out.of hb)
          have HW6 := Lib.hid (HW.out.trans (hb.mono HW.out.size))
          clear hb f0 f1 f2 p0 p1 KT KP KZ PT HW
          cases R with
          | none =>
            have f0 := KT6.out.cell 0
            have f1 := KT6.out.cell 1
            have f2 := KT6.out.cell 2
            simp only [List.getElem?_toArray, List.getElem?_cons_zero, List.getElem?_cons_succ] at f0 f1 f2
            have n1 := CY.out.ne _ _ _ HLK.out
            have n2 := CY.out.ne _ _ _ (CY.out.rot _ _ _ HLK.out)
            have n3 := CY.out.ne _ _ _ (CY.out.rot _ _ _ (CY.out.rot _ _ _ HLK.out))
            have HE := Lib.hid (And.intro (lst_mem (N := N) CY.out DM.out HLK.out) (And.intro (bey_lst HRR.out) HG.out))
            go_wp2_with fail
            refine (least_is a b c n1 n2 n3.symm V6).mono ?_
            rintro e V7 ⟨rfl, hb⟩
            have KZ7 := Lib.hid (KZ6.out.of hb)
            have HW7 := Lib.hid (HW6.out.trans (hb.mono HW6.out.size))
            obtain ⟨⟨l0, l1, l2⟩, hls⟩ : ∃ l, lst a b c = l := ⟨_, rfl⟩
            rw [hls] at HE ⊢
            clear hb f0 f1 f2 n1 n2 n3 KT6 KP6 KZ6 HW6 PT6 hls
            have z0 := KZ7.out.cell 0
            have z1 := KZ7.out.cell 1
            have z2 := KZ7.out.cell 2
            have y0 := KZ7.out.free 0
            have y1 := KZ7.out.free 1
            have y2 := KZ7.out.free 2
            have lz := KZ7.out.lt
            simp only [List.getElem?_toArray, List.getElem?_cons_zero, List.getElem?_cons_succ] at z0 z1 z2
            go_wp2
            refine noGoto_world ?_
            intro W hW
            show bodyPost Try.prog Try.f23 _ _ _ W
            have kW : Blk W zb #[.int .i64 (l0 : Nat), .int .i64 (l1 : Nat), .int .i64 (l2 : Nat)] 36 := by rw [hW]; exact KZ7.out.put3c (.int .i64 (l0 : Nat)) (.int .i64 (l1 : Nat)) (.int .i64 (l2 : Nat))
            have bW : Below w.heap.size w W := by rw [hW]; exact below_put3 HW7.out hzb (.int .i64 (l0 : Nat)) (.int .i64 (l1 : Nat)) (.int .i64 (l2 : Nat))
            clear hW z0 z1 z2 y0 y1 y2 lz
            have z0 := kW.cell 0
            have z1 := kW.cell 1
            have z2 := kW.cell 2
            simp only [List.getElem?_toArray, List.getElem?_cons_zero, List.getElem?_cons_succ] at z0 z1 z2
            simp [bodyPost, results, Try.results23, go_sem, z0, z1, z2]
            exact ⟨some (l0, l1, l2), ⟨rfl, rfl⟩, HE.out, bW⟩
          | some xy =>
            obtain ⟨x, y⟩ := xy
            have hyN : y < N := by rcases bey_cases HRR.out with ⟨_, h⟩ | ⟨_, h⟩ | ⟨_, h⟩ <;> omega
            obtain ⟨R2, hR2⟩ : ∃ R, lookH (O y) x = R := ⟨_, rfl⟩
            have HR2 := Lib.hid hR2
            have HLO := Lib.hid ((leftO_of hyN).trans hR2)
            clear hR2
            go_wp2_with fail
            refine (Left_is t D N X Y O n y x V6 (HS.out.of HW6.out) R2 HLO.out).mono ?_
            rintro e V7 ⟨rfl, hb⟩
            have KT7 := Lib.hid (KT6.out.of hb)
            have KP7 := Lib.hid (KP6.out.of hb)
            have KZ7 := Lib.hid (KZ6.out.of hb)
            have PT7 := Lib.hid (PT6.out.of hb)
            have HW7 := Lib.hid (HW6.out.trans (hb.mono HW6.out.size))
            clear hb KT6 KP6 KZ6 PT6 HW6
            cases R2 with
            | none =>
              go_wp2_with fail
              go_loopg [64] m (fun gk s64 wr => ∃ k : Nat, s64 = .int .i64 (k : Nat) ∧ k ≤ m ∧ m - k ≤ gk ∧ Hid (∀ j x, j < k → L[j]? = some x → bey X Y px py x.1 x.2.1 x.2.2 ≠ none) ∧ Hid (Blk wr pb #[.int .i64 px, .int .i64 py] 41) ∧ Hid (Blk wr zb #[.int .i64 0, .int .i64 0, .int .i64 0] 36) ∧ Hid (Trs wr (some ⟨gg, 0, none⟩) cap4 L) ∧ Hid (Below w.heap.size w wr))
              case atStart => exact ⟨0, rfl, by omega, by omega, Lib.hid (fun j x h => by omega), KP7, KZ7, PT7, HW7⟩
              case round =>
                clear KT7 KP7 KZ7 PT7 HW7
                obtain ⟨k, rfl, hk, hgk, HA, KP, KZ, PT, HW⟩ := hrel
                by_cases hlt : k < m
                · obtain ⟨g', hgg', hg', hcell⟩ := PT.out.ptr (by rw [HM.out]; exact hm0)
                  injection hgg' with hgg'
                  injection hgg' with hgg'
                  subst hgg'
                  obtain ⟨⟨x0, x1, x2⟩, hx⟩ : ∃ x, L[k]? = some x := ⟨_, List.getElem?_eq_getElem (show k < L.length by rw [HM.out]; exact hlt)⟩
                  obtain ⟨q0, q1, q2⟩ := hcell k _ hx
                  simp only [] at q0 q1 q2
                  have HX := Lib.hid hx
                  have hmem := mem_preO.1 (show (x0, x1, x2) ∈ preO O N by rw [HLL.out]; exact List.mem_iff_getElem?.2 ⟨k, hx⟩)
                  have hl0 := (look_mem (CY.out.srt x0)).1 hmem.2.1
                  obtain ⟨hx0, hx1, hx2⟩ := DM.out _ _ _ hl0
                  have p0 := KP.out.cell 0
                  have p1 := KP.out.cell 1
                  have lp := KP.out.lt
                  simp only [List.getElem?_toArray, List.getElem?_cons_zero, List.getElem?_cons_succ] at p0 p1
                  obtain ⟨R, hR⟩ : ∃ R, bey X Y px py x0 x1 x2 = R := ⟨_, rfl⟩
                  have HRR := Lib.hid hR
                  clear hR hcell hx hmem hl0
                  go_wp2_with fail
                  refine calls_w ?_
                  intro V8 hV8
                  have KX : Hid (Blk V8 wr.heap.size #[.int .i64 (x0 : Nat), .int .i64 (x1 : Nat), .int .i64 (x2 : Nat)] 36) := by rw [hV8]; exact Lib.hid (Blk.new wr _ _)
                  have hb8 : Below wr.heap.size wr V8 := by rw [hV8]; exact below_a1 _ _
                  have KP8 := Lib.hid (KP.out.of hb8)
                  have KZ8 := Lib.hid (KZ.out.of hb8)
                  have PT8 := Lib.hid (PT.out.of hb8)
                  have HW8 := Lib.hid (HW.out.trans (hb8.mono HW.out.size))
                  obtain ⟨xb, exb⟩ : ∃ b, wr.heap.size = b := ⟨_, rfl⟩
                  rw [exb] at KX ⊢
                  clear hV8 hb8 q0 q1 q2 p0 p1 lp KP KZ PT HW exb hg'
                  refine (beyond_is t D N X Y O n px py x0 x1 x2 V8 (HS.out.of HW8.out) hx0 hx1 hx2 R HRR.out).mono ?_
                  rintro e V9 ⟨rfl, hb⟩
                  have KX9 := Lib.hid (KX.out.of hb)
                  have KP9 := Lib.hid (KP8.out.of hb)
                  have KZ9 := Lib.hid (KZ8.out.of hb)
                  have PT9 := Lib.hid (PT8.out.of hb)
                  have HW9 := Lib.hid (HW8.out.trans (hb.mono HW8.out.size))
                  clear hb KX KP8 KZ8 PT8 HW8
                  cases R with
                  | none =>
                    have f0 := KX9.out.cell 0
                    have f1 := KX9.out.cell 1
                    have f2 := KX9.out.cell 2
                    simp only [List.getElem?_toArray, List.getElem?_cons_zero, List.getElem?_cons_succ] at f0 f1 f2
                    have HE := Lib.hid (show (x0, x1, x2) ∈ preO O N ∧ bey X Y px py x0 x1 x2 = none ∧ rp px py = true from ⟨by rw [HLL.out]; exact List.mem_iff_getElem?.2 ⟨k, HX.out⟩, HRR.out, HG.out⟩)
                    have z0 := KZ9.out.cell 0
                    have z1 := KZ9.out.cell 1
                    have z2 := KZ9.out.cell 2
                    have y0 := KZ9.out.free 0
                    have y1 := KZ9.out.free 1
                    have y2 := KZ9.out.free 2
                    have lz := KZ9.out.lt
                    simp only [List.getElem?_toArray, List.getElem?_cons_zero, List.getElem?_cons_succ] at z0 z1 z2
                    go_wp2
                    refine noGoto_world ?_
                    intro W hW
                    show bodyPost Try.prog Try.f23 _ _ _ W
                    have kW : Blk W zb #[.int .i64 (x0 : Nat), .int .i64 (x1 : Nat), .int .i64 (x2 : Nat)] 36 := by rw [hW]; exact KZ9.out.put3c (.int .i64 (x0 : Nat)) (.int .i64 (x1 : Nat)) (.int .i64 (x2 : Nat))
                    have bW : Below w.heap.size w W := by rw [hW]; exact below_put3 HW9.out hzb (.int .i64 (x0 : Nat)) (.int .i64 (x1 : Nat)) (.int .i64 (x2 : Nat))
                    clear hW z0 z1 z2 y0 y1 y2 lz
                    have z0 := kW.cell 0
                    have z1 := kW.cell 1
                    have z2 := kW.cell 2
                    simp only [List.getElem?_toArray, List.getElem?_cons_zero, List.getElem?_cons_succ] at z0 z1 z2
                    simp [bodyPost, results, Try.results23, go_sem, z0, z1, z2]
                    exact ⟨some (x0, x1, x2), ⟨rfl, rfl⟩, HE.out, bW⟩
                  | some xy =>
                    have HA2 : Hid (∀ j x, j < k + 1 → L[j]? = some x → bey X Y px py x.1 x.2.1 x.2.2 ≠ none) := by
                      refine Lib.hid fun j x hj hx => ?_
                      rcases Nat.lt_or_ge j k with h | h
                      · exact HA.out j x h hx
                      · obtain rfl : j = k := by omega
                        rw [HX.out] at hx
                        injection hx with hx
                        subst hx
                        intro e
                        rw [HRR.out] at e
                        cases e
                    clear KX9 HRR
                    go_wp2_with fail
                    go_roundg (m - (k + 1))
                    case measure => omega
                    case rel => exact ⟨k + 1, by norm_cast, by omega, Nat.le_refl _, HA2, KP9, KZ9, PT9, HW9⟩
                · have hkm : k = m := by omega
                  have HA3 := Lib.hid (show ∀ x, x ∈ preO O N → bey X Y px py x.1 x.2.1 x.2.2 ≠ none by
                    intro x hx
                    rw [HLL.out] at hx
                    obtain ⟨j, hj⟩ := List.mem_iff_getElem?.1 hx
                    exact HA.out j x (by have := (List.getElem?_eq_some_iff.1 hj).1; rw [HM.out] at this; omega) hj)
                  have z0 := KZ.out.cell 0
                  have z1 := KZ.out.cell 1
                  have z2 := KZ.out.cell 2
                  have y0 := KZ.out.free 0
                  have y1 := KZ.out.free 1
                  have y2 := KZ.out.free 2
                  have lz := KZ.out.lt
                  simp only [List.getElem?_toArray, List.getElem?_cons_zero, List.getElem?_cons_succ] at z0 z1 z2
                  go_wp2
                  refine noGoto_world ?_
                  intro W hW
                  show bodyPost Try.prog Try.f23 _ _ _ W
                  have kW : Blk W zb #[.int .i64 0, .int .i64 0, .int .i64 0] 36 := by rw [hW]; exact KZ.out.put3c (.int .i64 0) (.int .i64 0) (.int .i64 0)
                  have bW : Below w.heap.size w W := by rw [hW]; exact below_put3 HW.out hzb (.int .i64 0) (.int .i64 0) (.int .i64 0)
                  clear hW z0 z1 z2 y0 y1 y2 lz
                  have z0 := kW.cell 0
                  have z1 := kW.cell 1
                  have z2 := kW.cell 2
                  simp only [List.getElem?_toArray, List.getElem?_cons_zero, List.getElem?_cons_succ] at z0 z1 z2
                  simp [bodyPost, results, Try.results23, go_sem, z0, z1, z2]
                  exact ⟨none, ⟨rfl, rfl⟩, .inr HA3.out, bW⟩
            | some d =>
              have f0 := KT7.out.cell 0
              have f1 := KT7.out.cell 1
              have f2 := KT7.out.cell 2
              have g0 := KT7.out.free 0
              have g1 := KT7.out.free 1
              have g2 := KT7.out.free 2
              have lf := KT7.out.lt
              simp only [List.getElem?_toArray, List.getElem?_cons_zero, List.getElem?_cons_succ] at f0 f1 f2
              have KT8 := Lib.hid (KT7.out.put3c (.int .i64 (y : Nat)) (.int .i64 (x : Nat)) (.int .i64 (d : Nat)))
              have KP8 := Lib.hid (KP7.out.set3c (b := tb) (by omega) (.int .i64 (y : Nat)) (.int .i64 (x : Nat)) (.int .i64 (d : Nat)))
              have KZ8 := Lib.hid (KZ7.out.set3c (b := tb) (by omega) (.int .i64 (y : Nat)) (.int .i64 (x : Nat)) (.int .i64 (d : Nat)))
              have HW8 := Lib.hid (below_put3 HW7.out hwt (.int .i64 (y : Nat)) (.int .i64 (x : Nat)) (.int .i64 (d : Nat)))
              have PT8 := Lib.hid (PT7.out.set3 (b := tb) (by omega) (.int .i64 (y : Nat)) (.int .i64 (x : Nat)) (.int .i64 (d : Nat)))
              clear KT7 KP7 KZ7 PT7 HW7
              go_wp2_with fail
              go_roundg (m - (k + 1))
              case measure => omega
              case rel => exact ⟨k + 1, y, x, d, by norm_cast, by omega, Nat.le_refl _, HR2, KT8, KP8, KZ8, PT8, HW8⟩
        · have KT7 := KT
          have KP7 := KP
          have KZ7 := KZ
          have PT7 := PT
          have HW7 := HW
          clear KT KP KZ PT HW
          go_wp2_with fail
          go_loopg [64] m (fun gk s64 wr => ∃ k : Nat, s64 = .int .i64 (k : Nat) ∧ k ≤ m ∧ m - k ≤ gk ∧ Hid (∀ j x, j < k → L[j]? = some x → bey X Y px py x.1 x.2.1 x.2.2 ≠ none) ∧ Hid (Blk wr pb #[.int .i64 px, .int .i64 py] 41) ∧ Hid (Blk wr zb #[.int .i64 0, .int .i64 0, .int .i64 0] 36) ∧ Hid (Trs wr (some ⟨gg, 0, none⟩) cap4 L) ∧ Hid (Below w.heap.size w wr))
          case atStart => exact ⟨0, rfl, by omega, by omega, Lib.hid (fun j x h => by omega), KP7, KZ7, PT7, HW7⟩
          case round =>
            clear KT7 KP7 KZ7 PT7 HW7
            obtain ⟨k, rfl, hk, hgk, HA, KP, KZ, PT, HW⟩ := hrel
            by_cases hlt : k < m
            · obtain ⟨g', hgg', hg', hcell⟩ := PT.out.ptr (by rw [HM.out]; exact hm0)
              injection hgg' with hgg'
              injection hgg' with hgg'
              subst hgg'
              obtain ⟨⟨x0, x1, x2⟩, hx⟩ : ∃ x, L[k]? = some x := ⟨_, List.getElem?_eq_getElem (show k < L.length by rw [HM.out]; exact hlt)⟩
              obtain ⟨q0, q1, q2⟩ := hcell k _ hx
              simp only [] at q0 q1 q2
              have HX := Lib.hid hx
              have hmem := mem_preO.1 (show (x0, x1, x2) ∈ preO O N by rw [HLL.out]; exact List.mem_iff_getElem?.2 ⟨k, hx⟩)
              have hl0 := (look_mem (CY.out.srt x0)).1 hmem.2.1
              obtain ⟨hx0, hx1, hx2⟩ := DM.out _ _ _ hl0
              have p0 := KP.out.cell 0
              have p1 := KP.out.cell 1
              have lp := KP.out.lt
              simp only [List.getElem?_toArray, List.getElem?_cons_zero, List.getElem?_cons_succ] at p0 p1
              obtain ⟨R, hR⟩ : ∃ R, bey X Y px py x0 x1 x2 = R := ⟨_, rfl⟩
              have HRR := Lib.hid hR
              clear hR hcell hx hmem hl0
              go_wp2_with fail
              refine calls_w ?_
              intro V8 hV8
              have KX : Hid (Blk V8 wr.heap.size #[.int .i64 (x0 : Nat), .int .i64 (x1 : Nat), .int .i64 (x2 : Nat)] 36) := by rw [hV8]; exact Lib.hid (Blk.new wr _ _)
              have hb8 : Below wr.heap.size wr V8 := by rw [hV8]; exact below_a1 _ _
              have KP8 := Lib.hid (KP.out.of hb8)
              have KZ8 := Lib.hid (KZ.out.of hb8)
              have PT8 := Lib.hid (PT.out.of hb8)
              have HW8 := Lib.hid (HW.out.trans (hb8.mono HW.out.size))
              obtain ⟨xb, exb⟩ : ∃ b, wr.heap.size = b := ⟨_, rfl⟩
              rw [exb] at KX ⊢
              clear hV8 hb8 q0 q1 q2 p0 p1 lp KP KZ PT HW exb hg'
              refine (beyond_is t D N X Y O n px py x0 x1 x2 V8 (HS.out.of HW8.out) hx0 hx1 hx2 R HRR.out).mono ?_
              rintro e V9 ⟨rfl, hb⟩
              have KX9 := Lib.hid (KX.out.of hb)
              have KP9 := Lib.hid (KP8.out.of hb)
              have KZ9 := Lib.hid (KZ8.out.of hb)
              have PT9 := Lib.hid (PT8.out.of hb)
              have HW9 := Lib.hid (HW8.out.trans (hb.mono HW8.out.size))
              clear hb KX KP8 KZ8 PT8 HW8
              cases R with
              | none =>
                have f0 := KX9.out.cell 0
                have f1 := KX9.out.cell 1
                have f2 := KX9.out.cell 2
                simp only [List.getElem?_toArray, List.getElem?_cons_zero, List.getElem?_cons_succ] at f0 f1 f2
                have HE := Lib.hid (show (x0, x1, x2) ∈ preO O N ∧ bey X Y px py x0 x1 x2 = none ∧ rp px py = true from ⟨by rw [HLL.out]; exact List.mem_iff_getElem?.2 ⟨k, HX.out⟩, HRR.out, HG.out⟩)
                have z0 := KZ9.out.cell 0
                have z1 := KZ9.out.cell 1
                have z2 := KZ9.out.cell 2
                have y0 := KZ9.out.free 0
                have y1 := KZ9.out.free 1
                have y2 := KZ9.out.free 2
                have lz := KZ9.out.lt
                simp only [List.getElem?_toArray, List.getElem?_cons_zero, List.getElem?_cons_succ] at z0 z1 z2
                go_wp2
                refine noGoto_world ?_
                intro W hW
                show bodyPost Try.prog Try.f23 _ _ _ W
                have kW : Blk W zb #[.int .i64 (x0 : Nat), .int .i64 (x1 : Nat), .int .i64 (x2 : Nat)] 36 := by rw [hW]; exact KZ9.out.put3c (.int .i64 (x0 : Nat)) (.int .i64 (x1 : Nat)) (.int .i64 (x2 : Nat))
                have bW : Below w.heap.size w W := by rw [hW]; exact below_put3 HW9.out hzb (.int .i64 (x0 : Nat)) (.int .i64 (x1 : Nat)) (.int .i64 (x2 : Nat))
                clear hW z0 z1 z2 y0 y1 y2 lz
                have z0 := kW.cell 0
                have z1 := kW.cell 1
                have z2 := kW.cell 2
                simp only [List.getElem?_toArray, List.getElem?_cons_zero, List.getElem?_cons_succ] at z0 z1 z2
                simp [bodyPost, results, Try.results23, go_sem, z0, z1, z2]
                exact ⟨some (x0, x1, x2), ⟨rfl, rfl⟩, HE.out, bW⟩
              | some xy =>
                have HA2 : Hid (∀ j x, j < k + 1 → L[j]? = some x → bey X Y px py x.1 x.2.1 x.2.2 ≠ none) := by
                  refine Lib.hid fun j x hj hx => ?_
                  rcases Nat.lt_or_ge j k with h | h
                  · exact HA.out j x h hx
                  · obtain rfl : j = k := by omega
                    rw [HX.out] at hx
                    injection hx with hx
                    subst hx
                    intro e
                    rw [HRR.out] at e
                    cases e
                clear KX9 HRR
                go_wp2_with fail
                go_roundg (m - (k + 1))
                case measure => omega
                case rel => exact ⟨k + 1, by norm_cast, by omega, Nat.le_refl _, HA2, KP9, KZ9, PT9, HW9⟩
            · have hkm : k = m := by omega
              have HA3 := Lib.hid (show ∀ x, x ∈ preO O N → bey X Y px py x.1 x.2.1 x.2.2 ≠ none by
                intro x hx
                rw [HLL.out] at hx
                obtain ⟨j, hj⟩ := List.mem_iff_getElem?.1 hx
                exact HA.out j x (by have := (List.getElem?_eq_some_iff.1 hj).1; rw [HM.out] at this; omega) hj)
              have z0 := KZ.out.cell 0
              have z1 := KZ.out.cell 1
              have z2 := KZ.out.cell 2
              have y0 := KZ.out.free 0
              have y1 := KZ.out.free 1
              have y2 := KZ.out.free 2
              have lz := KZ.out.lt
              simp only [List.getElem?_toArray, List.getElem?_cons_zero, List.getElem?_cons_succ] at z0 z1 z2
              go_wp2
              refine noGoto_world ?_
              intro W hW
              show bodyPost Try.prog Try.f23 _ _ _ W
              have kW : Blk W zb #[.int .i64 0, .int .i64 0, .int .i64 0] 36 := by rw [hW]; exact KZ.out.put3c (.int .i64 0) (.int .i64 0) (.int .i64 0)
              have bW : Below w.heap.size w W := by rw [hW]; exact below_put3 HW.out hzb (.int .i64 0) (.int .i64 0) (.int .i64 0)
              clear hW z0 z1 z2 y0 y1 y2 lz
              have z0 := kW.cell 0
              have z1 := kW.cell 1
              have z2 := kW.cell 2
              simp only [List.getElem?_toArray, List.getElem?_cons_zero, List.getElem?_cons_succ] at z0 z1 z2
              simp [bodyPost, results, Try.results23, go_sem, z0, z1, z2]
              exact ⟨none, ⟨rfl, rfl⟩, .inr HA3.out, bW⟩
end Go.Proofs.Ytdlpfiiakmhnlaa

namespace Go.Proofs.Ytdlpfiiakmhnlaa
open Go.RowKit

theorem gWay_is (ax ay bx b_y cx cy r : Int) (h : way ax ay bx b_y cx cy = r) (w : World) :
    Calls Try.prog 46 #[pI ax ay, pI bx b_y, pI cx cy] w fun e w' => e = .returned (.int .i64 r) ∧ Below w.heap.size w w' := h ▸ Way_any ax ay bx b_y cx cy w
/-- where one lies to a triangle: w: the triangle's turn; g: is the point right; x, y, z: its turns with the sides -/
def in3 (x y z : Int) : Int := min (min (min 1 x) y) z
def inV (w : Int) (g : Bool) (x y z : Int) : Int := bif w == 0 || !g then -1 else in3 (x * w) (y * w) (z * w)
def inW (ax ay bx b_y cx cy px py : Int) : Int := inV (way ax ay bx b_y cx cy) (rp px py) (way ax ay bx b_y px py) (way bx b_y cx cy px py) (way cx cy ax ay px py)
def S3 (x : Int) : Prop := x = -1 ∨ x = 0 ∨ x = 1
theorem S3.mul {x y : Int} (hx : S3 x) (hy : S3 y) : S3 (x * y) := by
  unfold S3 at *
  rcases hx with rfl | rfl | rfl <;> rcases hy with rfl | rfl | rfl <;> decide
theorem S3.wrap {x : Int} (hx : S3 x) : wrap64 x = x := by
  unfold S3 at *
  rcases hx with rfl | rfl | rfl <;> unfold wrap64 <;> omega
end Go.Proofs.Ytdlpfiiakmhnlaa

namespace Go.Proofs.Ytdlpfiiakmhnlaa
open Go.RowKit

set_option maxRecDepth 100000 in
set_option maxHeartbeats 2000000 in
theorem rIn_go (ax ay bx b_y cx cy px py w x y z X Y Z : Int) (g t : Bool) (hw : way ax ay bx b_y cx cy = w) (hg : rp px py = g) (hx : way ax ay bx b_y px py = x) (hy : way bx b_y cx cy px py = y) (hz : way cx cy ax ay px py = z)
    (ht : (w == 0) = t) (hX : wrap64 (x * w) = X) (hY : wrap64 (y * w) = Y) (hZ : wrap64 (z * w) = Z) (sX : S3 X) (sY : S3 Y) (sZ : S3 Z) (v : World) :
    Calls Try.prog 22 #[pI ax ay, pI bx b_y, pI cx cy, pI px py] v fun e w' => e = .returned (.int .i64 (bif t || !g then -1 else in3 X Y Z)) ∧ Below v.heap.size v w' := by
  have HW := Lib.hid hw
  have HG := Lib.hid hg
  have H1 := Lib.hid hx
  have H2 := Lib.hid hy
  have H3 := Lib.hid hz
  have HX := Lib.hid hX
  have HY := Lib.hid hY
  have HZ := Lib.hid hZ
  have SX := Lib.hid sX
  have SY := Lib.hid sY
  have SZ := Lib.hid sZ
  clear hw hg hx hy hz sX sY sZ hX hY hZ
  go_enter Try.func22, Try.ntmps22
  go_wp2_with fail
  first | refine calls_w ?_ | refine name_world ?_
  intro W hW
  have ka : QVar W (v.heap.size) ax ay := by rw [hW]; exact (Blk.new v _ _) |>.alloc _ |>.alloc _ |>.alloc _
  have kb : QVar W (v.heap.size + 1) bx b_y := by rw [hW]; exact (Blk.new1 v _ _ _) |>.alloc _ |>.alloc _
  have kc : QVar W (v.heap.size + 1 + 1) cx cy := by rw [hW]; exact (Blk.new2 v _ _ _ _) |>.alloc _
  have kd : QVar W (v.heap.size + 1 + 1 + 1) px py := by rw [hW]; exact (Blk.new3 v _ _ _ _ _)
  have hb0 : Below v.heap.size v W := by rw [hW]; exact (below_a3 _ _ _ _).alloc (by simp; omega) _
  clear hW
  refine (gWay_is ax ay bx b_y cx cy w HW.out _).mono ?_
  rintro e u1 ⟨rfl, hn⟩
  replace ka : QVar u1 _ _ _ := ka.of hn
  replace kb : QVar u1 _ _ _ := kb.of hn
  replace kc : QVar u1 _ _ _ := kc.of hn
  replace kd : QVar u1 _ _ _ := kd.of hn
  replace hb0 := hb0.trans (hn.mono hb0.size)
  clear hn 
  cases t
  · have ca := QVar.c ka
    have la := ka.lt
    have cb := QVar.c kb
    have lb := kb.lt
    have cc := QVar.c kc
    have lc := kc.lt
    have cd := QVar.c kd
    have ld := kd.lt
    go_wp2_with fail
    clear ca la cb lb cc lc cd ld
    refine (rR_is px py g HG.out _).mono ?_
    rintro e u2 ⟨rfl, hn⟩
    replace ka : QVar u2 _ _ _ := ka.of hn
    replace kb : QVar u2 _ _ _ := kb.of hn
    replace kc : QVar u2 _ _ _ := kc.of hn
    replace kd : QVar u2 _ _ _ := kd.of hn
    replace hb0 := hb0.trans (hn.mono hb0.size)
    clear hn 
    cases g
    · have ca := QVar.c ka
      have la := ka.lt
      have cb := QVar.c kb
      have lb := kb.lt
      have cc := QVar.c kc
      have lc := kc.lt
      have cd := QVar.c kd
      have ld := kd.lt
      go_wp2
      go_ret
      exact ⟨rfl, hb0⟩
    · have ca := QVar.c ka
      have la := ka.lt
      have cb := QVar.c kb
      have lb := kb.lt
      have cc := QVar.c kc
      have lc := kc.lt
      have cd := QVar.c kd
      have ld := kd.lt
      go_wp2_with fail
      clear ca la cb lb cc lc cd ld
      refine (gWay_is ax ay bx b_y px py x H1.out _).mono ?_
      rintro e u3 ⟨rfl, hn⟩
      replace ka : QVar u3 _ _ _ := ka.of hn
      replace kb : QVar u3 _ _ _ := kb.of hn
      replace kc : QVar u3 _ _ _ := kc.of hn
      replace kd : QVar u3 _ _ _ := kd.of hn
      replace hb0 := hb0.trans (hn.mono hb0.size)
      clear hn 
      have ca := QVar.c ka
      have la := ka.lt
      have cb := QVar.c kb
      have lb := kb.lt
      have cc := QVar.c kc
      have lc := kc.lt
      have cd := QVar.c kd
      have ld := kd.lt
      have hX := HX.out
      go_wp2_with fail
      clear ca la cb lb cc lc cd ld
      refine (gWay_is bx b_y cx cy px py y H2.out _).mono ?_
      rintro e u4 ⟨rfl, hn⟩
      replace ka : QVar u4 _ _ _ := ka.of hn
      replace kb : QVar u4 _ _ _ := kb.of hn
      replace kc : QVar u4 _ _ _ := kc.of hn
      replace kd : QVar u4 _ _ _ := kd.of hn
      replace hb0 := hb0.trans (hn.mono hb0.size)
      clear hn 
      have ca := QVar.c ka
      have la := ka.lt
      have cb := QVar.c kb
      have lb := kb.lt
      have cc := QVar.c kc
      have lc := kc.lt
      have cd := QVar.c kd
      have ld := kd.lt
      have hY := HY.out
      go_wp2_with fail
      clear ca la cb lb cc lc cd ld
      refine (gWay_is cx cy ax ay px py z H3.out _).mono ?_
      rintro e u5 ⟨rfl, hn⟩
      replace ka : QVar u5 _ _ _ := ka.of hn
      replace kb : QVar u5 _ _ _ := kb.of hn
      replace kc : QVar u5 _ _ _ := kc.of hn
      replace kd : QVar u5 _ _ _ := kd.of hn
      replace hb0 := hb0.trans (hn.mono hb0.size)
      clear hn 
      have hZ := HZ.out
      clear HX HY HZ H1 H2 H3 HW HG ht
      rcases SX.out with rfl | rfl | rfl <;> rcases SY.out with rfl | rfl | rfl <;> rcases SZ.out with rfl | rfl | rfl
      all_goals
        go_wp2
        go_ret
        exact ⟨rfl, hb0⟩
  · have ca := QVar.c ka
    have la := ka.lt
    have cb := QVar.c kb
    have lb := kb.lt
    have cc := QVar.c kc
    have lc := kc.lt
    have cd := QVar.c kd
    have ld := kd.lt
    go_wp2
    go_ret
    exact ⟨rfl, hb0⟩
theorem rIn_any (ax ay bx b_y cx cy px py : Int) (v : World) :
    Calls Try.prog 22 #[pI ax ay, pI bx b_y, pI cx cy, pI px py] v fun e w' => e = .returned (.int .i64 (inW ax ay bx b_y cx cy px py)) ∧ Below v.heap.size v w' := by
  have s0 : S3 (way ax ay bx b_y cx cy) := way_cases _ _ _ _ _ _
  have s1 : S3 (way ax ay bx b_y px py) := way_cases _ _ _ _ _ _
  have s2 : S3 (way bx b_y cx cy px py) := way_cases _ _ _ _ _ _
  have s3 : S3 (way cx cy ax ay px py) := way_cases _ _ _ _ _ _
  exact rIn_go ax ay bx b_y cx cy px py _ _ _ _ _ _ _ _ _ rfl rfl rfl rfl rfl rfl (s1.mul s0).wrap (s2.mul s0).wrap (s3.mul s0).wrap (s1.mul s0) (s2.mul s0) (s3.mul s0) v

end Go.Proofs.Ytdlpfiiakmhnlaa

namespace Go.Proofs.Ytdlpfiiakmhnlaa
open Go.RowKit

theorem wy_rot {N : Nat} {X Y : Nat → Int} (hg : allC N X Y = true) {a b c : Nat} (ha : a < N) (hb : b < N) (hc : c < N) : wy X Y b c a = wy X Y a b c := by
  rw [wy_sgn hg hb hc ha, wy_sgn hg ha hb hc, gT_rot]
theorem wy_swap {N : Nat} {X Y : Nat → Int} (hg : allC N X Y = true) {a b c : Nat} (ha : a < N) (hb : b < N) (hc : c < N) : wy X Y b a c = -wy X Y a b c := by
  rw [wy_sgn hg hb ha hc, wy_sgn hg ha hb hc, gT_swap, Int.sign_neg]
theorem wy_turn {N : Nat} {X Y : Nat → Int} (hg : allC N X Y = true) {a b p : Nat} (ha : a < N) (hb : b < N) (hp : p < N) (h : wy X Y a b p < 0) : 0 < wy X Y a p b := by
  have h1 := wy_swap hg hp ha hb
  have h2 := wy_rot hg hp ha hb
  have h3 : wy X Y a b p = wy X Y p a b := h2
  rw [h1]; omega
theorem look_all {N : Nat} : ∀ (l : List Tri3) {O : Nat → List (Nat × Nat)}, Cyc O → PutOk N O l → ∀ x y z : Nat, lookH (putAll O l x) y = some z → lookH (O x) y = some z ∨ ∃ t, t ∈ l ∧ ((x = t.1 ∧ y = t.2.1 ∧ z = t.2.2) ∨ (x = t.2.1 ∧ y = t.2.2 ∧ z = t.1) ∨ (x = t.2.2 ∧ y = t.1 ∧ z = t.2.1)) := by
  intro l
  induction l with
  | nil => intro O _ _ x y z h; exact .inl h
  | cons t l ih =>
    intro O hO hp x y z h
    obtain ⟨⟨a1, a2, a3, n1, n2, n3, h1, h2, h3⟩, hp⟩ := hp
    rcases ih (hO.put ⟨n1, n2, n3, h1, h2, h3⟩) hp x y z h with h4 | ⟨u, hu, h4⟩
    · rw [look_putT hO.srt ⟨n1, n2, n3, h1, h2, h3⟩] at h4
      split at h4
      · rename_i e; injection h4 with h4; exact .inr ⟨t, List.mem_cons_self .., .inl ⟨e.1, e.2, h4.symm⟩⟩
      · split at h4
        · rename_i e; injection h4 with h4; exact .inr ⟨t, List.mem_cons_self .., .inr (.inl ⟨e.1, e.2, h4.symm⟩)⟩
        · split at h4
          · rename_i e; injection h4 with h4; exact .inr ⟨t, List.mem_cons_self .., .inr (.inr ⟨e.1, e.2, h4.symm⟩)⟩
          · exact .inl h4
    · exact .inr ⟨u, List.mem_cons_of_mem _ hu, h4⟩
/-- the triangles put turn left -/
def PosT (X Y : Nat → Int) (T : List Tri3) : Prop := ∀ t, t ∈ T → 0 < wy X Y t.1 t.2.1 t.2.2
def PosO (X Y : Nat → Int) (O : Nat → List (Nat × Nat)) : Prop := ∀ a b c : Nat, lookH (O a) b = some c → 0 < wy X Y a b c
theorem bld_pos {N q : Nat} {X Y : Nat → Int} (hg : allC N X Y = true) (hr : risC N X Y) (hl : isLn N X Y q) (hq : q < N) : ∀ k, q + k < N → PosT X Y (bld X Y q k).2 := by
  have h2 : 2 ≤ q := by have := hl.1; omega
  have hX := sX_ris hg hr
  intro k
  induction k with
  | zero =>
    intro _ t ht
    obtain ⟨i, hi⟩ := List.mem_iff_getElem?.1 ht
    obtain ⟨hi, rfl⟩ := begT_get _ _ _ _ hi
    have hL : gLn (sX X Y) Y q := fun i hi => by
      rcases Nat.lt_or_ge i 2 with h | h
      · rcases (show i = 0 ∨ i = 1 by omega) with rfl | rfl
        · exact gT_end1 _ _
        · exact gT_end2 _ _
      · exact (wy_gT hg 0 1 i (by omega) (by omega) (by omega)).2.1 (hl.2.2.1 i h hi)
    have c0 := wy_gT hg 0 1 q (by omega) (by omega) hq
    have hn := hl.2.2.2 hq
    show 0 < wy X Y (gH (begH X Y q) i) (gH (begH X Y q) (i + 1)) q
    unfold begH
    split
    · rename_i hh
      have g1 : ∀ i, i < q → gH (List.range q).reverse i = q - 1 - i := fun i h => by rw [← gH_app _ q i (by simpa using h), gH_dn, if_pos h]
      rw [g1 i (by omega), g1 (i + 1) (by omega)]
      have := (ln_out hX (by omega) hL (show q - 1 - (i + 1) < q - 1 - i by omega) (by omega) hq).2 (c0.1.1 hh)
      have c1 := wy_gT hg (q - 1 - (i + 1)) (q - 1 - i) q (by omega) (by omega) hq
      have := c1.1.2 this
      have h3 := wy_swap hg (show q - 1 - (i + 1) < N by omega) (show q - 1 - i < N by omega) hq
      rw [h3]; omega
    · rename_i hh
      have g1 : ∀ i, i < q → gH (List.range q) i = i := fun i h => by rw [← gH_app _ q i (by simpa using h), gH_up, if_pos (by omega)]
      rw [g1 i (by omega), g1 (i + 1) (by omega)]
      have hp : 0 < gT (sX X Y) Y 0 1 q := by have a := mt c0.1.2 hh; have b := mt c0.2.2 hn; omega
      have := (ln_out hX (by omega) hL (show i < i + 1 by omega) (by omega) hq).1 hp
      have c1 := wy_gT hg i (i + 1) q (by omega) (by omega) hq
      have a1 := mt c1.1.1 (by omega)
      have a2 := mt c1.2.1 (by omega)
      omega
  | succ k ih =>
    intro hk t ht
    have A := bld_add hX (wy_gT hg) h2 hq (fun i h1 h2 => hl.2.2.1 i h1 h2) (hl.2.2.2 hq) k hk
    obtain ⟨H, _, _⟩ := bld_st hg hr hl hq k (by omega)
    have h3 := H.len
    rcases List.mem_append.1 ht with ht | ht
    · exact ih (by omega) t ht
    · obtain ⟨j, hj, rfl⟩ := addT_mem _ _ _ _ ht
      have hs := A.run j hj
      have ml : ∀ k', k' % (bld X Y q k).1.length < (bld X Y q k).1.length := fun k' => Nat.mod_lt _ (by omega)
      have l1 := H.le _ (ml (firstI X Y (bld X Y q k).1 (q + k + 1) + j))
      have l2 := H.le _ (ml (firstI X Y (bld X Y q k).1 (q + k + 1) + j + 1))
      unfold sE at hs
      rw [nx_mod] at hs
      exact wy_turn hg (Nat.lt_of_le_of_lt l1 (by omega)) (Nat.lt_of_le_of_lt l2 (by omega)) hk (of_decide_eq_true hs)
theorem Tri.pos {N q : Nat} {X Y : Nat → Int} {T : List Tri3} {O : Nat → List (Nat × Nat)} (h : Tri N X Y q T O) (hg : allC N X Y = true) (hr : risC N X Y) : PosT X Y T ∧ PosO X Y O := by
  have hT : PosT X Y T := by
    rcases Nat.lt_or_ge q N with hq | hq
    · obtain ⟨_, _, e, _⟩ := h.some hq
      rw [e]; exact bld_pos hg hr h.ln hq _ (by omega)
    · have := h.none (by have := h.ln.2.1; omega)
      rw [this]; intro t ht; cases ht
  refine ⟨hT, fun a b c hl => ?_⟩
  have hp : PutOk N (fun _ => []) T := putok_fresh _ rep_none h.fresh
  rw [h.all] at hl
  rcases look_all T Cyc.nil hp a b c hl with h4 | ⟨t, ht, h4⟩
  · cases h4
  · have h5 := hT t ht
    obtain ⟨_, hd, _⟩ := h.cyc
    rw [← h.all] at hl
    obtain ⟨d1, d2, d3⟩ := hd _ _ _ hl
    rcases h4 with ⟨rfl, rfl, rfl⟩ | ⟨rfl, rfl, rfl⟩ | ⟨rfl, rfl, rfl⟩
    · exact h5
    · rw [wy_rot hg d3 d1 d2]; exact h5
    · rw [← wy_rot hg d1 d2 d3]; exact h5
/-- where a point lies to a triangle -/
def inT (X Y : Nat → Int) (px py : Int) (x : Tri3) : Int := inW (X x.1) (Y x.1) (X x.2.1) (Y x.2.1) (X x.2.2) (Y x.2.2) px py
theorem inT_bey {X Y : Nat → Int} {px py : Int} {x : Tri3} (h : 0 < wy X Y x.1 x.2.1 x.2.2) : 0 ≤ inT X Y px py x ↔ rp px py = true ∧ bey X Y px py x.1 x.2.1 x.2.2 = none := by
  have h1 : wy X Y x.1 x.2.1 x.2.2 = 1 := by rcases wy_cases X Y x.1 x.2.1 x.2.2 with e | e | e <;> omega
  rw [bey_none]
  unfold inT inW inV
  unfold wy at h1
  rw [h1]
  cases hg : rp px py with
  | false => simp
  | true =>
    show 0 ≤ in3 _ _ _ ↔ _
    unfold in3 wyp
    rw [Int.mul_one, Int.mul_one, Int.mul_one]
    simp only [true_and]
    omega
theorem rInT_is (X Y : Nat → Int) (px py : Int) (ax ay bx b_y cx cy r : Int) (hr : inW ax ay bx b_y cx cy px py = r) (w : World) :
    Calls Try.prog 22 #[pI ax ay, pI bx b_y, pI cx cy, pI px py] w fun e w' => e = .returned (.int .i64 r) ∧ Below w.heap.size w w' := hr ▸ rIn_any ax ay bx b_y cx cy px py w
@[go_sem] theorem run_eqTz (w : World) : (Op.equalIn 10000 36 (tI 0 0 0) (tI 0 0 0)).run Try.prog w = .ok true w := by kernel_rfl
end Go.Proofs.Ytdlpfiiakmhnlaa

namespace Go.Proofs.Ytdlpfiiakmhnlaa
open Go.RowKit
attribute [local go_sem] undef

set_option maxRecDepth 100000 in
set_option maxHeartbeats 2000000 in
theorem awake_is (w : World) : Calls Try.prog 11 #[] w fun e w' => e = .returned (.bool true) ∧ Below w.heap.size w w' := by
  go_enter Try.func11, Try.ntmps11
  go_wp2_with fail
  refine calls_w ?_
  intro V hV
  have bV : Below w.heap.size w V := by rw [hV]; exact below_a1 _ _
  have P1 : Pts V (some ⟨w.heap.size, 0, none⟩) 4 4 (lX [0, 0, 2, 2]) (lX [0, 2, 0, 2]) := by
    rw [hV]
    refine Pts.ofBlk (Blk.new w _ _) (by omega) fun i hi => ?_
    rcases (show i = 0 ∨ i = 1 ∨ i = 2 ∨ i = 3 by omega) with rfl | rfl | rfl | rfl <;> exact ⟨rfl, rfl⟩
  clear hV
  refine (Build_tri _ 4 4 _ _ V P1 (by omega) aw_1.1 aw_1.2).mono ?_
  rintro e V2 ⟨t, D, q, T, O, rfl, hT, hS, _, hb⟩
  obtain rfl := aw_q hT.ln
  obtain ⟨h, z, e1, e2, _, _, _, _, _, hH, _⟩ := hT.some (by omega)
  have hl : T.length = 2 := by
    rw [e1]; exact aw_len.1
  have hl2 : (rotH h z).length = 4 := by rw [rotH_len, e2]; exact aw_len.2
  rw [hl] at hS
  have HS := Lib.hid hS
  have HH := Lib.hid hH
  have HL := Lib.hid hl2
  have B2 := Lib.hid (bV.trans (hb.mono bV.size))
  clear P1 hT hS hH hl hl2 e1 e2 hb bV
  go_wp2_with fail
  refine (Len_is t D 4 _ _ O _ V2 HS.out).mono ?_
  rintro e V3 ⟨rfl, hb⟩
  have HS3 := Lib.hid (HS.out.of hb)
  have B3 := Lib.hid (B2.out.trans (hb.mono B2.out.size))
  clear hb HS B2
  go_wp2_with fail
  refine calls_w ?_
  intro V hV
  have bV : Below V3.heap.size V3 V := by rw [hV]; exact below_a1 _ _
  have P1 : Pts V (some ⟨V3.heap.size, 0, none⟩) 3 3 (lX [0, 1, 2]) (lX [0, 0, 0]) := by
    rw [hV]
    refine Pts.ofBlk (Blk.new V3 _ _) (by omega) fun i hi => ?_
    rcases (show i = 0 ∨ i = 1 ∨ i = 2 by omega) with rfl | rfl | rfl <;> exact ⟨rfl, rfl⟩
  clear hV
  refine (Build_tri _ 3 3 _ _ V P1 (by omega) aw_2.1 aw_2.2).mono ?_
  rintro e V4 ⟨t2, D2, q2, T2, O2, rfl, hT, hS, _, hb⟩
  obtain rfl := hT.none (aw_q2 hT.ln)
  have HA := Lib.hid hS
  have BB := bV.trans (hb.mono bV.size)
  have HS4 := Lib.hid (HS3.out.of BB)
  have B4 := Lib.hid (B3.out.trans (BB.mono B3.out.size))
  clear P1 hT hS hb BB bV HS3 B3
  go_wp2_with fail
  refine calls_w ?_
  intro V hV
  have bV : Below V4.heap.size V4 V := by rw [hV]; exact below_a1 _ _
  have P1 : Pts V (some ⟨V4.heap.size, 0, none⟩) 2 2 (lX [1, 0]) (lX [0, 0]) := by
    rw [hV]
    refine Pts.ofBlk (Blk.new V4 _ _) (by omega) fun i hi => ?_
    rcases (show i = 0 ∨ i = 1 by omega) with rfl | rfl <;> exact ⟨rfl, rfl⟩
  clear hV
  refine (Build_fall _ 2 2 _ _ V P1 (by omega) aw_3.1 aw_3.2).mono ?_
  rintro e V5 ⟨rfl, hb⟩
  have BB := bV.trans (hb.mono bV.size)
  have HS5 := Lib.hid (HS4.out.of BB)
  have HA5 := Lib.hid (HA.out.of BB)
  have B5 := Lib.hid (B4.out.trans (BB.mono B4.out.size))
  clear P1 hb BB bV HS4 B4 HA
  go_wp2_with fail
  refine (Len_is t2 D2 3 _ _ O2 _ V5 HA5.out).mono ?_
  rintro e V6 ⟨rfl, hb⟩
  have HS6 := Lib.hid (HS5.out.of hb)
  have B6 := Lib.hid (B5.out.trans (hb.mono B5.out.size))
  clear hb HS5 B5 HA5
  go_wp2_with fail
  refine (Hull_is t D 4 _ _ O _ _ HH.out (by decide) V6 HS6.out).mono ?_
  rintro e V7 ⟨v, rfl, hv, hb⟩
  obtain ⟨ao, cap, rfl, _⟩ := hv.val
  rw [HL.out]
  have B7 := Lib.hid (B6.out.trans (hb.mono B6.out.size))
  clear hb hv HS6 B6
  go_wp2
  go_ret
  exact ⟨rfl, B7.out⟩
end Go.Proofs.Ytdlpfiiakmhnlaa

namespace Go.Proofs.Ytdlpfiiakmhnlaa
open Go.RowKit
attribute [local go_sem] undef

theorem pre_lenF (O : Nat → List (Nat × Nat)) {N M : Nat} (h : ∀ a, a < N → (O a).length ≤ M) : (preO O N).length ≤ N * M := by
  induction N with
  | zero => show 0 ≤ _; omega
  | succ N ih =>
    show (preO O N ++ told N (O N)).length ≤ _
    have h1 := ih fun a ha => h a (by omega)
    have h2 := h N (by omega)
    have h3 : (told N (O N)).length ≤ (O N).length := by unfold told; rw [List.length_map]; exact List.length_filter_le _ _
    rw [List.length_append, Nat.succ_mul]; omega
theorem SM.preF {w : World} {t : Nat} {D : SD} {N : Nat} {X Y : Nat → Int} {O : Nat → List (Nat × Nat)} {n : Int} (h : SM w t D N X Y O n) : (preO O N).length < 100000000 := by
  have h1 := pre_lenF O (N := N) (M := N) fun a ha => sort_len (h.sort a ha) fun x hx => (h.dom a ha x hx).1
  have h2 := h.small
  have : N * N ≤ 4096 * 4096 := Nat.mul_le_mul h2 h2
  omega
def smP (X Y : Nat → Int) (px py : Int) (L : List Tri3) (k : Nat) (sm : Bool) : Prop := sm = true ↔ ∃ j x, j < k ∧ L[j]? = some x ∧ 0 ≤ inT X Y px py x
set_option maxRecDepth 100000 in
set_option maxHeartbeats 8000000 in
theorem TriFinds_any (ao : Option Addr) (N cap : Nat) (X Y : Nat → Int) (px py : Int) (w : World) (h : Pts w ao N cap X Y) :
    Calls Try.prog 5 #[.slice ao N cap, pI px py] w fun e w' => e = .returned (.bool true) ∧ Below w.heap.size w w' := by
  have HO := Lib.hid h
  have hcl := h.capl
  have hcb := h.capb
  clear h
  go_enter Try.func5, Try.ntmps5
  have bA := below_a1 w (.cells #[.int .i64 px, .int .i64 py] 41)
  by_cases h24 : 24 < N
  · have h24' : (24 : Int) < (N : Int) := by omega
    go_wp2_with fail
    refine (awake_is _).mono ?_
    rintro e V ⟨rfl, hb⟩
    have b2 := bA.trans (hb.mono bA.size)
    clear hb
    go_wp2
    go_ret
    exact ⟨rfl, b2⟩
  · have h24' : ¬ (24 : Int) < (N : Int) := by omega
    go_wp2_with fail
    refine calls_w ?_
    intro V hV
    have kP : Hid (Blk V w.heap.size #[.int .i64 px, .int .i64 py] 41) := by rw [hV]; exact Lib.hid (Blk.new w _ _)
    have bV : Hid (Below w.heap.size w V) := by rw [hV]; exact Lib.hid (below_a1 _ _)
    obtain ⟨pb, epb⟩ : ∃ b, w.heap.size = b := ⟨_, rfl⟩
    rw [epb] at kP ⊢
    clear hV epb bA
    refine (rising_is ao N cap X Y V (HO.out.of bV.out) (by omega)).mono ?_
    rintro e V2 ⟨b, rfl, hr, hb⟩
    rw [rsP_ris] at hr
    have HR := Lib.hid hr
    have kP2 := Lib.hid (kP.out.of hb)
    have B2 := Lib.hid (bV.out.trans (hb.mono bV.out.size))
    clear hr hb kP bV
    cases b with
    | false =>
      go_wp2_with fail
      refine (awake_is V2).mono ?_
      rintro e V3 ⟨rfl, hb⟩
      have B3 := B2.out.trans (hb.mono B2.out.size)
      clear hb
      go_wp2
      go_ret
      exact ⟨rfl, B3⟩
    | true =>
      obtain ⟨hg, hri⟩ := HR.out.1 rfl
      have HG := Lib.hid hg
      have HRI := Lib.hid hri
      clear hg hri
      go_wp2_with fail
      refine (Build_tri ao N cap X Y V2 (HO.out.of B2.out) (by omega) HG.out HRI.out).mono ?_
      rintro e V3 ⟨t, D, q, T, O, rfl, hT, hS, _, hb⟩
      obtain ⟨hcy, hdm, _⟩ := hT.cyc
      have CY := Lib.hid hcy
      have DM := Lib.hid hdm
      have PO := Lib.hid (hT.pos HG.out HRI.out).2
      have HS := Lib.hid hS
      have kP3 := Lib.hid (kP2.out.of hb)
      have B3 := Lib.hid (B2.out.trans (hb.mono B2.out.size))
      obtain ⟨L, hL⟩ : ∃ L, preO O N = L := ⟨_, rfl⟩
      have HLL := Lib.hid hL
      have hlen : L.length < 100000000 := by rw [← hL]; exact hS.preF
      obtain ⟨nn, hnn⟩ : ∃ n : Int, ((T.length : Nat) : Int) = n := ⟨_, rfl⟩
      rw [hnn] at HS
      clear hT hS hb kP2 B2 hL hcy hdm hnn
      go_wp2_with fail
      refine (refs_is ao N cap X Y V3 (HO.out.of B3.out) (by omega)).mono ?_
      rintro e V4 ⟨rv, rfl, hrow, hb⟩
      obtain ⟨ao4, cap4, rfl, P4⟩ := Pts.ofRow hrow
      have PP4 := Lib.hid P4
      have hrc := P4.capl
      have hrcb := P4.capb
      have HS4 := Lib.hid (HS.out.of hb)
      have kP4 := Lib.hid (kP3.out.of hb)
      have B4 := Lib.hid (B3.out.trans (hb.mono B3.out.size))
      clear hrow P4 hb kP3 B3 HS
      go_wp2_with fail
      refine (all_is t D N X Y O nn L HLL.out hlen V4 HS4.out).mono ?_
      rintro e V5 ⟨v, rfl, htl, hb⟩
      obtain ⟨ao5, cap5, rfl, P5⟩ := Trs.ofRow htl
      have PT5 := Lib.hid P5
      have htc := P5.capl
      have htcb := P5.capb
      have HS5 := Lib.hid (HS4.out.of hb)
      have PP5 := Lib.hid (PP4.out.of hb)
      have kP5 := Lib.hid (kP4.out.of hb)
      have B5 := Lib.hid (B4.out.trans (hb.mono B4.out.size))
      obtain ⟨m, hm⟩ : ∃ m, L.length = m := ⟨_, rfl⟩
      have HM := Lib.hid hm
      rw [hm] at htc hlen ⊢
      clear hb htl P5 kP4 B4 PP4 HS4 hm
      go_wp2_with fail
      go_loopg [8, 40] m (fun gk s8 s40 wr => ∃ (k : Nat) (sm : Bool), s8 = .bool sm ∧ s40 = .int .i64 (k : Nat) ∧ k ≤ m ∧ m - k ≤ gk ∧ Hid (smP X Y px py L k sm) ∧ Hid (Below V5.heap.size V5 wr))
      case atStart => exact ⟨0, false, rfl, rfl, by omega, by omega, Lib.hid ⟨fun h => (by cases h), fun ⟨j, x, h, _⟩ => absurd h (by omega)⟩, Lib.hid (Below.refl _ _)⟩
      case round =>
        obtain ⟨k, sm, rfl, rfl, hk, hgk, HQ, HW⟩ := hrel
        by_cases hlt : k < m
        · obtain ⟨g', hao', hg', hcell⟩ := (PT5.out.of HW.out).ptr (by rw [HM.out]; omega)
          subst hao'
          obtain ⟨⟨a, b, c⟩, hx⟩ : ∃ x, L[k]? = some x := ⟨_, List.getElem?_eq_getElem (show k < L.length by rw [HM.out]; exact hlt)⟩
          obtain ⟨q0, q1, q2⟩ := hcell k _ hx
          simp only [] at q0 q1 q2
          have HX := Lib.hid hx
          have hmem := mem_preO.1 (show (a, b, c) ∈ preO O N by rw [HLL.out]; exact List.mem_iff_getElem?.2 ⟨k, hx⟩)
          obtain ⟨haN, hbN, hcN⟩ := DM.out _ _ _ ((look_mem (CY.out.srt a)).1 hmem.2.1)
          clear hcell hx hmem
          go_wp2_with fail
          refine name_world ?_
          intro W hW
          have KX : Hid (Blk W wr.heap.size #[.int .i64 (a : Nat), .int .i64 (b : Nat), .int .i64 (c : Nat)] 35) := by rw [hW]; exact Lib.hid (Blk.new wr _ _)
          have hbW : Below wr.heap.size wr W := by rw [hW]; exact below_a1 _ _
          have HW6 := Lib.hid (HW.out.trans (hbW.mono HW.out.size))
          obtain ⟨xb, exb⟩ : ∃ b, wr.heap.size = b := ⟨_, rfl⟩
          rw [exb] at KX ⊢
          clear hW hbW q0 q1 q2 HW exb hg'
          have f0 := KX.out.cell 0
          have f1 := KX.out.cell 1
          have f2 := KX.out.cell 2
          have lf := KX.out.lt
          have kP6 := kP5.out.of HW6.out
          have p0 := kP6.cell 0
          have p1 := kP6.cell 1
          have lp := kP6.lt
          simp only [List.getElem?_toArray, List.getElem?_cons_zero, List.getElem?_cons_succ] at f0 f1 f2 p0 p1
          obtain ⟨ra, hra, hpt⟩ := (PP5.out.of HW6.out).atP (by omega)
          subst hra
          obtain ⟨ax, hax⟩ : ∃ x, X a = x := ⟨_, rfl⟩
          obtain ⟨ay, hay⟩ : ∃ x, Y a = x := ⟨_, rfl⟩
          obtain ⟨bx, hbx⟩ : ∃ x, X b = x := ⟨_, rfl⟩
          obtain ⟨b_y, hby⟩ : ∃ x, Y b = x := ⟨_, rfl⟩
          obtain ⟨cx, hcx⟩ : ∃ x, X c = x := ⟨_, rfl⟩
          obtain ⟨cy, hcy⟩ : ∃ x, Y c = x := ⟨_, rfl⟩
          obtain ⟨r, hr⟩ : ∃ r, inW ax ay bx b_y cx cy px py = r := ⟨_, rfl⟩
          have HIT := Lib.hid (show inT X Y px py (a, b, c) = r by unfold inT; rw [hax, hay, hbx, hby, hcx, hcy]; exact hr)
          have HRI2 := Lib.hid hr
          have qa := hpt a haN
          have qb := hpt b hbN
          have qc := hpt c hcN
          rw [hax, hay] at qa
          rw [hbx, hby] at qb
          rw [hcx, hcy] at qc
          have qa0 := fun u => (qa u).1
          have qa1 := fun u => (qa u).2
          have qb0 := fun u => (qb u).1
          have qb1 := fun u => (qb u).2
          have qc0 := fun u => (qc u).1
          have qc1 := fun u => (qc u).2
          clear hax hay hbx hby hcx hcy hpt qa qb qc hr kP6
          cases sm with
          | true =>
            have HQ2 : Hid (smP X Y px py L (k + 1) true) := by
              refine Lib.hid ⟨fun _ => ?_, fun _ => rfl⟩
              obtain ⟨j, x, h1, h2⟩ := HQ.out.1 rfl
              exact ⟨j, x, by omega, h2⟩
            go_wp2_with fail
            refine wp_region_up W.heap.size 18 [(true, 0), (true, 1), (true, 2), (true, 3), (true, 4), (true, 5), (true, 6), (true, 7), (true, 8), (true, 9), (true, 10), (true, 11), (true, 12), (true, 13), (true, 14), (true, 15), (true, 16), (true, 17)] (by kernel_rfl) (by kernel_rfl) (fun _ _ d _ _ h => by cases d <;> exact h) ?_
            have hb : Below W.heap.size W W.drew := (Below.refl _ _).drew
            iterate 18
              refine wpS_takeL rfl rfl ?_
              go_big_quiet_step (rfl)
              refine wpQuiet_nil ?_
            refine wpS_nil ?_
            simp only [List.drop_succ_cons, List.drop_zero]
            have HW7 := Lib.hid (HW6.out.trans (hb.mono HW6.out.size))
            clear hb
            go_wp2_with fail
            go_roundg (m - (k + 1))
            case measure => omega
            case rel => exact ⟨k + 1, true, rfl, by norm_cast, by omega, Nat.le_refl _, HQ2, HW7⟩
          | false =>
            have HQ2 : Hid (smP X Y px py L (k + 1) (decide (0 ≤ r))) := by
              refine Lib.hid ⟨fun h => ⟨k, _, by omega, HX.out, by rw [HIT.out]; exact of_decide_eq_true h⟩, fun ⟨j, x, h1, h2, h3⟩ => ?_⟩
              rcases Nat.lt_or_ge j k with h4 | h4
              · have := HQ.out.2 ⟨j, x, h4, h2, h3⟩; cases this
              · obtain rfl : j = k := by omega
                rw [HX.out] at h2
                injection h2 with h2
                subst h2
                rw [HIT.out] at h3
                exact decide_eq_true h3
            go_wp2_with fail
            refine wp_region_up W.heap.size 18 [(true, 0), (true, 1), (true, 2), (true, 3), (true, 4), (true, 5), (true, 6), (true, 7), (true, 8), (true, 9), (true, 10), (true, 11), (true, 12), (true, 13), (true, 14), (true, 15), (true, 16), (true, 17)] (by kernel_rfl) (by kernel_rfl) (fun _ _ d _ _ h => by cases d <;> exact h) ?_
            have hb : Below W.heap.size W W.drew := (Below.refl _ _).drew
            iterate 18
              refine wpS_takeL rfl rfl ?_
              go_big_quiet_step (rfl)
              refine wpQuiet_nil ?_
            refine wpS_nil ?_
            simp only [List.drop_succ_cons, List.drop_zero]
            go_wp2_with fail
            refine (rInT_is X Y px py ax ay bx b_y cx cy r HRI2.out _).mono ?_
            rintro e w2 ⟨rfl, hn⟩
            have hb12 := hb.trans (hn.mono hb.size)
            have HW7 := Lib.hid (HW6.out.trans (hb12.mono HW6.out.size))
            clear hb hn hb12
            go_wp2_with fail
            go_roundg (m - (k + 1))
            case measure => omega
            case rel => exact ⟨k + 1, decide (0 ≤ r), rfl, by norm_cast, by omega, Nat.le_refl _, HQ2, HW7⟩
        · have hkm : k = m := by omega
          have HQ3 : Hid (sm = true ↔ ∃ x, x ∈ preO O N ∧ 0 ≤ inT X Y px py x) := by
            refine Lib.hid (HQ.out.trans ⟨fun ⟨j, x, h1, h2, h3⟩ => ⟨x, by rw [HLL.out]; exact List.mem_iff_getElem?.2 ⟨j, h2⟩, h3⟩, fun ⟨x, h1, h3⟩ => ?_⟩)
            rw [HLL.out] at h1
            obtain ⟨j, hj⟩ := List.mem_iff_getElem?.1 h1
            exact ⟨j, x, by have := (List.getElem?_eq_some_iff.1 hj).1; rw [HM.out] at this; omega, hj, h3⟩
          have kP6 := Lib.hid (kP5.out.of HW.out)
          have HS6 := Lib.hid (HS5.out.of HW.out)
          have B6 := Lib.hid (B5.out.trans (HW.out.mono B5.out.size))
          have p0 := kP6.out.cell 0
          have p1 := kP6.out.cell 1
          simp only [List.getElem?_toArray, List.getElem?_cons_zero, List.getElem?_cons_succ] at p0 p1
          clear HQ hkm kP5 HS5 B5 PT5 PP5 HW
          go_wp2_with fail
          refine (Find_is t D N X Y O nn px py wr HS6.out CY.out DM.out (by rw [HLL.out, HM.out]; exact hlen)).mono ?_
          rintro e V7 ⟨R, rfl, hfd, hb⟩
          have kP7 := Lib.hid (kP6.out.of hb)
          have HS7 := Lib.hid (HS6.out.of hb)
          have B7 := Lib.hid (B6.out.trans (hb.mono B6.out.size))
          have posx : ∀ x, x ∈ preO O N → 0 < wy X Y x.1 x.2.1 x.2.2 := fun x hx => PO.out _ _ _ ((look_mem (CY.out.srt x.1)).1 (mem_preO.1 hx).2.1)
          have hsm : sm = R.isSome := by
            cases R with
            | none =>
              cases hsm : sm with
              | false => rfl
              | true =>
                obtain ⟨x, h1, h2⟩ := HQ3.out.1 hsm
                obtain ⟨h3, h4⟩ := (inT_bey (posx x h1)).1 h2
                rcases hfd with h5 | h5
                · rw [h3] at h5; cases h5
                · exact absurd h4 (h5 x h1)
            | some x => exact HQ3.out.2 ⟨x, hfd.1, (inT_bey (posx x hfd.1)).2 ⟨hfd.2.2, hfd.2.1⟩⟩
          subst hsm
          clear hb kP6 HS6 B6 p0 p1 HQ3
          cases R with
          | none =>
            clear hfd posx
            have kf : fdV none = tI 0 0 0 := rfl
            rw [kf]
            go_wp2_with fail
            have ba := (below_a1 V7 (.cells #[.int .i64 0, .int .i64 0, .int .i64 0] 36))
            refine (awake_is _).mono ?_
            rintro e V8 ⟨rfl, hb⟩
            have B8 := (B7.out.trans (ba.mono B7.out.size)).trans (hb.mono (B7.out.trans (ba.mono B7.out.size)).size)
            clear hb ba
            go_wp2
            go_ret
            exact ⟨rfl, B8⟩
          | some x =>
            obtain ⟨a, b, c⟩ := x
            obtain ⟨hmem, hbn, hrp⟩ := hfd
            have hpo := posx _ hmem
            have hint := (inT_bey hpo).2 ⟨hrp, hbn⟩
            obtain ⟨haN, hul, hab, hac⟩ := mem_preO.1 hmem
            simp only [] at haN hul hab hac
            have HLK := Lib.hid ((look_mem (CY.out.srt a)).1 hul)
            obtain ⟨_, hbN, hcN⟩ := DM.out _ _ _ HLK.out
            have HIN := Lib.hid hint
            have hab' : (a : Int) < (b : Int) := by omega
            have hac' : (a : Int) < (c : Int) := by omega
            clear hmem hbn hrp hpo hint hul posx
            have kf : fdV (some (a, b, c)) = tI a b c := rfl
            rw [kf]
            go_wp2_with fail
            refine calls_w ?_
            intro V8 hV8
            have KX : Hid (Blk V8 V7.heap.size #[.int .i64 (a : Nat), .int .i64 (b : Nat), .int .i64 (c : Nat)] 36) := by rw [hV8]; exact Lib.hid (Blk.new V7 _ _)
            have hb8 : Below V7.heap.size V7 V8 := by rw [hV8]; exact below_a1 _ _
            have kP8 := Lib.hid (kP7.out.of hb8)
            have HS8 := Lib.hid (HS7.out.of hb8)
            have B8 := Lib.hid (B7.out.trans (hb8.mono B7.out.size))
            obtain ⟨xb, exb⟩ : ∃ b, V7.heap.size = b := ⟨_, rfl⟩
            rw [exb] at KX ⊢
            clear hV8 hb8 exb kP7 HS7 B7
            refine (Corners_yes t D N X Y O nn a b c V8 HS8.out haN hbN hcN HLK.out).mono ?_
            rintro e V9 ⟨rfl, hb⟩
            have KX9 := Lib.hid (KX.out.of hb)
            have kP9 := Lib.hid (kP8.out.of hb)
            have B9 := Lib.hid (B8.out.trans (hb.mono B8.out.size))
            obtain ⟨ax, hax⟩ : ∃ x, X a = x := ⟨_, rfl⟩
            obtain ⟨ay, hay⟩ : ∃ x, Y a = x := ⟨_, rfl⟩
            obtain ⟨bx, hbx⟩ : ∃ x, X b = x := ⟨_, rfl⟩
            obtain ⟨b_y, hby⟩ : ∃ x, Y b = x := ⟨_, rfl⟩
            obtain ⟨cx, hcx⟩ : ∃ x, X c = x := ⟨_, rfl⟩
            obtain ⟨cy, hcy⟩ : ∃ x, Y c = x := ⟨_, rfl⟩
            obtain ⟨r, hr⟩ : ∃ r, inW ax ay bx b_y cx cy px py = r := ⟨_, rfl⟩
            have hr0 : 0 ≤ r := by
              have e : inT X Y px py (a, b, c) = r := by unfold inT; rw [hax, hay, hbx, hby, hcx, hcy]; exact hr
              rw [← e]; exact HIN.out
            have HRI2 := Lib.hid hr
            rw [hax, hay, hbx, hby, hcx, hcy]
            clear hb KX kP8 B8 HS8 hax hay hbx hby hcx hcy hr
            have f0 := KX9.out.cell 0
            have f1 := KX9.out.cell 1
            have f2 := KX9.out.cell 2
            have p0 := kP9.out.cell 0
            have p1 := kP9.out.cell 1
            have lf := KX9.out.lt
            have lp := kP9.out.lt
            simp only [List.getElem?_toArray, List.getElem?_cons_zero, List.getElem?_cons_succ] at f0 f1 f2 p0 p1
            have ba := (below_a1 V9 (.cells #[.int .i64 ax, .int .i64 ay, .int .i64 bx, .int .i64 b_y, .int .i64 cx, .int .i64 cy] 42))
            have B10 := Lib.hid (B9.out.trans (ba.mono B9.out.size))
            clear ba
            go_wp2_with fail
            refine (rInT_is X Y px py ax ay bx b_y cx cy r HRI2.out _).mono ?_
            rintro e V11 ⟨rfl, hn⟩
            have B11 := Lib.hid (B10.out.trans (hn.mono B10.out.size))
            clear hn f0 f1 f2 p0 p1 lf lp
            go_wp2_with fail
            refine (awake_is V11).mono ?_
            rintro e V12 ⟨rfl, hb⟩
            have B12 := B11.out.trans (hb.mono B11.out.size)
            clear hb
            go_wp2
            go_ret
            exact ⟨rfl, B12⟩
end Go.Proofs.Ytdlpfiiakmhnlaa

namespace Go.Proofs.Ytdlpfiiakmhnlaa
open Go.ChangeShapes Go.WideShapes Go.ChangeAt Go.RowKit

theorem blk_add (a : Addr) (n : Nat) : (a.add n).block = a.block := by unfold Addr.add; split <;> rfl
section
variable {H : Type} {enc : TypeId × Value → H} {w : World} {base : Nat} {held : Bool}
set_option maxRecDepth 100000 in
theorem open_pts {r : Reach} {b0 : Nat} {v : Value} {d : DataW H} {p : List MemPlace} (hv : Value.okWide Try.prog w r b0 22 v) (h : DataW.Trod enc Try.prog w base (fun _ => true) held 22 v d p) :
    ∃ ao n cap X Y, v = .slice ao n cap ∧ Pts w ao n cap X Y := by
  obtain ⟨ao, n, cap, rfl⟩ := okWide_slice Try.underlying22 hv
  obtain ⟨fuel, hf⟩ := h
  have hC : Try.prog.cellsOf 41 = 2 := by kernel_rfl
  have hC1 : Try.prog.cellsOf 3 = 1 := by kernel_rfl
  rcases Go.Deep.open_slice_pairs Try.underlying22 Try.underlying41 hC rfl rfl hC1 hC1 hf with ⟨hc, hx⟩ | ⟨a, len, c2, m, k, V0, V1, D0, D1, P0, P1, hc, _, hl, hm, hmm, hx, hall⟩
  · obtain ⟨rfl, rfl, rfl⟩ : ao = none ∧ n = 0 ∧ cap = 0 := by simpa [Value.cells] using hc
    exact ⟨none, 0, 0, fun _ => 0, fun _ => 0, rfl, fun h => absurd h (by omega), Nat.le_refl _, by omega⟩
  · obtain ⟨rfl, rfl, rfl⟩ : ao = some a ∧ n = len ∧ cap = c2 := by simpa [Value.cells] using hc
    have hmc : m = cap := by rw [hmm]; rfl
    have key : ∀ i, i < n → ∃ y : Int × Int, V0 i = .int .i64 y.1 ∧ V1 i = .int .i64 y.2 := by
      intro i hi
      obtain ⟨_, _, t0, t1⟩ := hall i (by omega)
      obtain ⟨a0, e0, _, g0⟩ := DataW.trod_int Try.underlying3 t0
      obtain ⟨a1, e1, _, g1⟩ := DataW.trod_int Try.underlying3 t1
      exact ⟨(a0, a1), by simpa using e0, by simpa using e1⟩
    refine ⟨some a, n, cap, fun i => if h : i < n then (key i h).choose.1 else 0, fun i => if h : i < n then (key i h).choose.2 else 0, rfl, fun h0 => ⟨a, rfl, ?_, fun i hi => ?_⟩, hl, hm⟩
    · have := (hall 0 (by omega)).1
      have := World.block_lt_of_cell? _ _ this
      rwa [blk_add] at this
    · have e0 := (hall i (by omega)).1
      have e1 := (hall i (by omega)).2.1
      rw [(key i hi).choose_spec.1] at e0
      rw [(key i hi).choose_spec.2] at e1
      simp only [dif_pos hi]
      exact ⟨e0, by rw [Go.Deep.add_add]; exact e1⟩
end
end Go.Proofs.Ytdlpfiiakmhnlaa

namespace Go.Proofs.Ytdlpfiiakmhnlaa
open Go.ChangeShapes Go.WideShapes Go.ChangeAt Go.RowKit

set_option maxRecDepth 100000 in
set_option maxHeartbeats 1000000 in
theorem triFinds_lifted (os : Os) (started : os.Started) (H : Type) (enc : TypeId × Value → H) :
    ReturnsInHanded {} Try.checked os 5 .any (Rows.triFindsSpec.pre6 enc Try.prog Try.f5 Rows.triFindsRow.domain false) (Rows.triFindsSpec.post enc Try.prog Try.f5 false true false false) := by
  refine returnsInHanded_of_change (C := Try.checked) own started (by kernel_rfl) Try.func5
    (ChangeSpec.witness6 (enc := enc) (C := Try.checked) false ⟨#[], #[.slice none 0 0, pI 0 0], []⟩ 8 (by kernel_rfl) (by kernel_rfl) (by kernel_rfl) (by kernel_rfl)) ?_
  intro W base args ds gs before hval0 hW hcnd _
  have hval : ∀ (j : Nat) t v, Try.f5.params[j]? = some t → args[j]? = some v → Value.okWide Try.prog W .any base t v := hval0
  have hW' := hW
  obtain ⟨p, q, hA0, hV, rfl, hfz, hnd⟩ := hW
  have hA : DataW.TrodAll enc Try.prog W 0 (fun _ => true) true Try.f5.params.toList args.toList ds p := hA0
  rw [Try.params5] at hA hval
  obtain ⟨v0, vs0, d0, ds0, p0, q0, hargs, rfl, rfl, h0, r0⟩ := trodAll_cons hA
  obtain ⟨v1, vs1, d1, ds1, p1, q1, rfl, rfl, rfl, h1, r1⟩ := trodAll_cons r0
  obtain ⟨rfl, rfl, rfl⟩ := trodAll_nil r1
  obtain rfl : args = #[v0, v1] := by cases args; simp_all
  obtain ⟨rfl, rfl⟩ := trodVars_none hV
  have k0 := h0
  have lt0 : ∀ x ∈ p0, x.block < W.heap.size := by obtain ⟨m, hm⟩ := k0; exact DataW.trod_lt m _ _ _ hm
  obtain ⟨ao0, n0, cap0, X0, Y0, rfl, io0⟩ := open_pts (hval 0 22 v0 rfl rfl) h0
  have k1 := h1
  have lt1 : ∀ x ∈ p1, x.block < W.heap.size := by obtain ⟨m, hm⟩ := k1; exact DataW.trod_lt m _ _ _ hm
  obtain ⟨x1, y1, ix1, iy1, rfl⟩ := open_point (hval 1 41 v1 rfl rfl) h1
  clear hA0 hval0
  refine (TriFinds_any ao0 n0 cap0 X0 Y0 x1 y1 W io0).mono fun e W' ⟨he, bel⟩ => ?_
  subst he
  exact ⟨_, rfl, _, _, _, [], _, [], hW', trodAll_mk1 (shut_bool Try.underlying4 _), (trodAll_cons_mk (Below.trod laidOut (by kernel_rfl) (of_decide_eq_true (by kernel_rfl)) k0 bel lt0) (trodAll_cons_mk (Below.trod laidOut (by kernel_rfl) (of_decide_eq_true (by kernel_rfl)) k1 bel lt1) trodAll_mk0)), rfl, bel.frame _, fun h => by cases h⟩

theorem triFinds_holds : Rows.TriFindsSaid :=
  OpenClaim.holds_of_wide 5 Try.f5 rfl rfl rfl rfl rfl rfl rfl ⟨rfl, rfl, rfl, rfl, rfl⟩ rfl rfl rfl rfl rfl (by kernel_rfl) Try.func5 (by kernel_rfl)
    (of_decide_eq_true (by kernel_rfl)) (by unfold Func.isWrapper; rw [if_neg (by decide +kernel)]; exact ⟨rfl, rfl⟩)
    (fun os started H enc _ => triFinds_lifted os started H enc)
#print axioms triFinds_holds
end Go.Proofs.Ytdlpfiiakmhnlaa

