/- The statement TriHullsSaid: for every input the law returns true, and its arguments read as before. Conditions: none. -/
import Derived.Test.YtdlpfiiakmhnlaaSHu3
import Derived.KernelRfl
import Derived.StillTail
import Derived.OrdersHeld
import Derived.Deep.Quiet
import Derived.Below
import Derived.WalkKit
import Derived.Test.YtdlpfiiakmhnlaaProg
import Derived.WalkSpells
import Derived.StillTactics
import Derived.Laws.Pointers
import Derived.Deep.RegionHeld3
import Derived.RowKit3
import Derived.Deep.QuietTactic
import Derived.BigQuiet
import Derived.BigRegion
import Derived.Lib.Hide
import Derived.WalkSmall
import Derived.Laws.BitsAllLaws
import Derived.IntWalk
import Derived.Deep.OwnRows
import Derived.Deep.LoopGhost
import Derived.Shelf.Bits.Mul64
import Derived.Test.YtdlpfiiakmhnlaaRows
import Derived.ProofKit
import Derived.OpenShut
import Derived.ShutString
import Derived.ChangeOld
import Derived.Lib.SmallJoins
import Derived.Laws.IdiomArrays
import Derived.Laws.CopyOwn
import Derived.Laws.AppendOwn
import Derived.Deep.DeepAppendRoom
import Derived.Lib.AppendZerosOnto
import Derived.Lib.Overlaps
import Derived.Deep.RegionLaw
import Derived.Shelf.RegionOpenPlain
import Derived.Deep.RegionWith
import Derived.Sort.LoopGhostIn
import Derived.RangeFuncNested
import Derived.RangeFuncBound
import Derived.RangeFuncCalls
import Derived.RangeFuncLeaves
import Derived.OwnWalk
import Derived.OwnWalkIn
import Derived.TacticsInMore
import Derived.LoopNIn
import Derived.LoopIn
import Derived.Deep.DeepFit
import Derived.Deep.DeepCutAuto
import Derived.Shelf.Abstract
import Derived.Shelf.RegionOpen
import Derived.Maps.OwnIn
import Derived.WalkMore
import Derived.Deep.SlicePairs
namespace Go.Proofs.Ytdlpfiiakmhnlaa
open Go.RowKit Go.Shelf

/-- what lay at or above block B is as it was, but for G -/
structure AboveX (B : Nat) (G : Nat → Prop) (W W' : World) : Prop where
  size : W.heap.size ≤ W'.heap.size
  block : ∀ k, B ≤ k → k < W.heap.size → ¬ G k → W'.heap[k]? = W.heap[k]?
theorem AboveX.refl (B : Nat) (G : Nat → Prop) (W : World) : AboveX B G W W := ⟨Nat.le_refl _, fun _ _ _ _ => rfl⟩
theorem AboveX.trans {B : Nat} {G : Nat → Prop} {W W1 W2 : World} (h : AboveX B G W W1) (k : AboveX B G W1 W2) : AboveX B G W W2 :=
  ⟨Nat.le_trans h.size k.size, fun j hj hk hn => (k.block j hj (Nat.lt_of_lt_of_le hk h.size) hn).trans (h.block j hj hk hn)⟩
theorem AboveX.ofAbove {B : Nat} {G : Nat → Prop} {W W' : World} (h : Above B W W') : AboveX B G W W' := ⟨h.size, fun k h1 h2 _ => h.block k h1 h2⟩
/-- what lay below B, and G, is as it was -/
def BelowX (B : Nat) (G : Nat → Prop) (W W' : World) : Prop := Below B W W' ∧ ∀ g, G g → g < W.heap.size → W'.heap[g]? = W.heap[g]?
theorem BelowX.mono {B B' : Nat} {G : Nat → Prop} {W W' : World} (h : BelowX B G W W') (hb : B' ≤ B) : BelowX B' G W W' := ⟨h.1.mono hb, h.2⟩
theorem BelowX.all {B : Nat} {G : Nat → Prop} {W W' : World} (h : Below W.heap.size W W') (hb : B ≤ W.heap.size) : BelowX B G W W' := ⟨h.mono hb, fun g _ hg => h.block g hg⟩
theorem BelowX.trans {B : Nat} {G : Nat → Prop} {W W1 W2 : World} (h : BelowX B G W W1) (k : BelowX B G W1 W2) : BelowX B G W W2 :=
  ⟨h.1.trans k.1, fun g hg hs => (k.2 g hg (Nat.lt_of_lt_of_le hs h.1.size)).trans (h.2 g hg hs)⟩
/-- the iterator g (captured: lb) tells encs 0, encs 1, .. up to N, as far as it is asked; it turns nothing below B; a round keeps what lies at or above B; it asks Kp between two rounds -/
def TellsX (P : Program) (gf : Nat) (lb : Array Value) (N : Nat) (encs : Nat → Array Value) (B : Nat) (Kp : World → Prop) : Prop :=
  ∀ (m lid : Nat) (I : (Nat → Prop) → Nat → World → Prop) (Ix : Nat → World → Prop), (∀ G k W, I G k W → Kp W) → (∀ G k W, I G k W → ∀ g, G g → B ≤ g ∧ g < W.heap.size) → (∀ G k W W', I G k W → BelowX B G W W' → I G k W') → (∀ k W W', Ix k W → Below B W W' → Ix k W') →
    (∀ G k W, k < N → I G k W → YieldAt Fence.wide m P lid (encs k) W fun e W' => ((e = .returned (.bool true) ∧ ∃ G', (∀ g, G' g → G g ∨ W.heap.size ≤ g) ∧ I G' (k + 1) W') ∨ (e = .returned (.bool false) ∧ Ix (k + 1) W')) ∧ AboveX B G W W') →
    ∀ W, B ≤ W.heap.size → I (fun _ => False) 0 W → CallsIn Fence.wide (m + 1) P gf (#[.func (.yield lid) #[] #[]] ++ lb) W fun e W' => (∃ v, e = .returned v) ∧ ((∃ G, I G N W') ∨ ∃ k, k ≤ N ∧ Ix k W')
def rPostX (B l D : Nat) (W : World) (J : (Nat → Prop) → Nat → World → Prop) (Jx : Code → Nat → World → Prop) (G : Nat → Prop) (k : Nat) : Exit → Act → World → Prop
  | .normal, _, W' => (Fix2 l D W W' ∧ ∃ G', (∀ g, G' g → G g ∨ W.heap.size ≤ g) ∧ J G' (k + 1) W') ∧ AboveX B G W W'
  | .ret, _, W' => (Fix2 l D W W' ∧ Jx .ret (k + 1) W') ∧ AboveX B G W W'
  | .exit id, _, W' => (Fix2 l D W W' ∧ Jx (.exit id) (k + 1) W') ∧ AboveX B G W W'
  | .goto t, _, W' => (Fix2 l D W W' ∧ Jx (.goto t) (k + 1) W') ∧ AboveX B G W W'
  | .panic _, _, _ => False
  | .outgrown, _, _ => False
set_option maxHeartbeats 1000000 in
theorem wpIn_rangeX {P : Program} {g : Operand} {ps : Array Tmp} {assign body : Code} {Q : Exit → Act → World → Prop} {a : Act} {w : World} {m : Nat} {gf : Nat} {lb : Array Value} {N : Nat} {encs : Nat → Array Value} {Kp : World → Prop}
    (hg : a.eval g = .func (.func gf) #[] lb) (eg : ∀ args w, (callFunc gf args).run P w = .ok (.enter gf args) w)
    (hT : TellsX P gf lb N encs (w.heap.size + 2) Kp) (hps : ∀ k, (encs k).size = ps.size)
    (J : (Nat → Prop) → Nat → World → Prop) (Jx : Code → Nat → World → Prop) (hG : ∀ G k W, J G k W → ∀ g, G g → w.heap.size + 2 ≤ g ∧ g < W.heap.size) (hst : ∀ G k W W', J G k W → BelowX w.heap.size G W W' → J G k W') (hxst : ∀ c k W W', Jx c k W → Below w.heap.size W W' → Jx c k W')
    (hKp : ∀ G k W, J G k W → Kp W) (h0 : J (fun _ => False) 0 w)
    (hround : ∀ (lid D k : Nat) (G : Nat → Prop) (W : World), k < N → J G k W → lid = w.heap.size + 1 → D = w.heap.size → lid < W.heap.size → D < W.heap.size →
      assign.wpIn (Fence.wide.inRound lid) m P (Exit.then (fun a₁ w₁ => (Fix2 lid D W w₁ ∧ AboveX (w.heap.size + 2) G W w₁) ∧ ∀ w₂, OutL [lid] w₁ w₂ → body.wpIn (Fence.wide.inRound lid) m P (rPostX (w.heap.size + 2) lid D w₂ J Jx G k) a₁ w₂) (fun _ _ _ => False))
        { tmps := (ps.zip (encs k)).foldl (fun t (p, v) => t.setIfInBounds p v) a.tmps, defers := [] } W)
    (hdone : ∀ D G W, D = w.heap.size → J G N W → W.heap[D]? = some (.deferred (some [])) → Q .normal { a with defers := { target := .collected D, args := #[] } :: a.defers } W)
    (hstop : ∀ D c k W, D = w.heap.size → Jx c k W → W.heap[D]? = some (.deferred (some [])) → c.wpIn Fence.wide (m + 2) P Q { a with defers := { target := .collected D, args := #[] } :: a.defers } W) :
    (Code.rangeFunc g ps assign body).wpIn Fence.wide (m + 2) P Q a w := by
  refine wpIn_rangeFunc ?_
  intro fn hfn
  obtain ⟨rec, hrec⟩ : ∃ rec : LoopState → Option Code → Loop, rec = fun st pe => { state := st, pending := pe, fn, tmps := a.tmps, params := ps, assign, body, defers := w.heap.size } := ⟨_, rfl⟩
  obtain ⟨W1, hW1⟩ : ∃ W1, (w.alloc (.deferred (some []))).alloc (.loop (rec .ready none)) = W1 := ⟨_, rfl⟩
  have hL1 : W1.heap[w.heap.size + 1]? = some (.loop (rec .ready none)) := by
    rw [← hW1]; have := World.alloc_heap_new (w.alloc (.deferred (some []))) (.loop (rec .ready none)); rwa [World.size_alloc] at this
  have hK1 : W1.heap[w.heap.size]? = some (.deferred (some [])) := by
    rw [← hW1]; exact (Below.heap_alloc _ _ _ (by simp)).trans (World.alloc_heap_new w _)
  have hb1 : Below w.heap.size w W1 := by rw [← hW1]; exact below_a2 _ _ _
  have hsz : W1.heap.size = w.heap.size + 2 := by rw [← hW1]; simp
  refine ⟨w.heap.size + 1, [{ target := .collected w.heap.size, args := #[] }], W1, { target := .fn (.func gf) lb, args := #[.func (.yield (w.heap.size + 1)) #[] #[]] }, W1, gf,
    #[.func (.yield (w.heap.size + 1)) #[] #[]] ++ lb, W1, ?_, ?_, ?_, ?_, fun h => absurd h (by decide), ?_⟩
  · rw [← hW1, hrec]; exact run_enterLoop_outer _ _ _ _ _
  · simp only [resolve, hg]
    simp [go_sem]
  · intro f' hf'; trivial
  · simp [invoke, go_sem, eg]
  · refine (hT m (w.heap.size + 1)
      (fun G k W => J G k W ∧ W.heap[w.heap.size + 1]? = some (.loop (rec .ready none)) ∧ W.heap[w.heap.size]? = some (.deferred (some [])))
      (fun k W => ∃ c, Jx c k W ∧ W.heap[w.heap.size + 1]? = some (.loop (rec .done (some c))) ∧ W.heap[w.heap.size]? = some (.deferred (some [])))
      (fun G k W h => hKp G k W h.1) (fun G k W h => hG G k W h.1) (fun G k W W' h hb => ⟨hst G k W W' h.1 (hb.mono (by omega)), (hb.1.block _ (by omega)).trans h.2.1, (hb.1.block _ (by omega)).trans h.2.2⟩)
      (fun k W W' h hb => by obtain ⟨c, h1, h2, h3⟩ := h; exact ⟨c, hxst c k W W' h1 (hb.mono (by omega)), (hb.block _ (by omega)).trans h2, (hb.block _ (by omega)).trans h3⟩)
      ?_ W1 (by omega) ⟨hst _ 0 _ _ h0 ⟨hb1, fun g hg => hg.elim⟩, hL1, hK1⟩).mono ?_
    · rintro G k W hk ⟨hi, hl, hd⟩
      have hlt : w.heap.size + 1 < W.heap.size := (Array.getElem?_eq_some_iff.1 hl).1
      have hy := run_yield (P := P) (args := encs k) hl (by rw [hrec]; exact hps k)
      rw [hrec] at hy
      refine ⟨fn, _, assign, body, hy, roundIn_of_wpIn trivial (wpIn_mono (hround _ _ k G W hk hi rfl rfl hlt (by omega)) ?_)⟩
      rintro e a1 w1 he
      cases e with
      | normal =>
        obtain ⟨⟨hf1, hab1⟩, hbody⟩ := he
        have hl1 : w1.heap[w.heap.size + 1]? = some (.loop (rec .ready none)) := hf1.1.trans hl
        have hd1 : w1.heap[w.heap.size]? = some (.deferred (some [])) := hf1.2.trans hd
        have hlt1 : w.heap.size + 1 < w1.heap.size := (Array.getElem?_eq_some_iff.1 hl1).1
        refine ⟨_, run_beginRound hl1 (by rw [hrec]), wpIn_mono (hbody _ (putObj_out _ _ _)) ?_⟩
        have hl2 : (w1.putObj (w.heap.size + 1) (.loop { rec .ready none with state := .busy })).heap[w.heap.size + 1]? = some (.loop { rec .ready none with state := .busy }) := World.putObj_heap_same hlt1
        have hd2 : (w1.putObj (w.heap.size + 1) (.loop { rec .ready none with state := .busy })).heap[w.heap.size]? = some (.deferred (some [])) := (World.putObj_heap_other (by omega)).trans hd1
        have fin : ∀ (jump : Option Code) (W3 : World), Fix2 (w.heap.size + 1) w.heap.size (w1.putObj (w.heap.size + 1) (.loop { rec .ready none with state := .busy })) W3 →
            (Instr.endRound (w.heap.size + 1) jump).run P W3 = .ok (.bool jump.isNone) (W3.putObj (w.heap.size + 1) (.loop (rec (if jump.isNone then .ready else .done) jump))) ∧
            (W3.putObj (w.heap.size + 1) (.loop (rec (if jump.isNone then .ready else .done) jump))).heap[w.heap.size + 1]? = some (.loop (rec (if jump.isNone then .ready else .done) jump)) ∧
            (W3.putObj (w.heap.size + 1) (.loop (rec (if jump.isNone then .ready else .done) jump))).heap[w.heap.size]? = some (.deferred (some [])) := fun jump W3 hk3 => by
          have hl3 := hk3.1.trans hl2
          have := run_endRound (P := P) jump hl3
          rw [hrec] at this ⊢
          exact ⟨this, World.putObj_heap_same (Array.getElem?_eq_some_iff.1 hl3).1, (World.putObj_heap_other (by omega)).trans (hk3.2.trans hd2)⟩
        have pb : ∀ (W3 : World) (o : Obj), w.heap.size ≤ W3.heap.size → Below w.heap.size W3 (W3.putObj (w.heap.size + 1) o) := fun W3 o h => (putObj_out W3 _ o).below h (by simp)
        have sz3 : ∀ W3 : World, Fix2 (w.heap.size + 1) w.heap.size (w1.putObj (w.heap.size + 1) (.loop { rec .ready none with state := .busy })) W3 → w.heap.size ≤ W3.heap.size := fun W3 h => by
          have := (Array.getElem?_eq_some_iff.1 (h.1.trans hl2)).1; omega
        rintro e a3 W3 hp
        have abv : ∀ o : Obj, AboveX (w.heap.size + 2) G (w1.putObj (w.heap.size + 1) (.loop { rec .ready none with state := .busy })) W3 → AboveX (w.heap.size + 2) G W (W3.putObj (w.heap.size + 1) o) := fun o h => ((hab1.trans (.ofAbove (.putObj _ (by omega) _))).trans h).trans (.ofAbove (.putObj _ (by omega) _))
        cases e with
        | normal =>
          obtain ⟨⟨hf3, G', hG', hJ3⟩, hab⟩ := hp
          obtain ⟨hr, hl4, hk4⟩ := fin none W3 hf3
          have hgg := hG _ _ _ hJ3
          refine ⟨_, _, hr, .inl ⟨rfl, G', fun g hg => ?_, hst _ _ _ _ hJ3 ⟨pb _ _ (sz3 _ hf3), fun g hg _ => World.putObj_heap_other (by have := hgg g hg; omega)⟩, hl4, hk4⟩, abv _ hab⟩
          rcases hG' g hg with h | h
          · exact .inl h
          · refine .inr (Nat.le_trans hab1.size ?_)
            simpa using h
        | ret =>
          obtain ⟨hp, hab⟩ := hp
          obtain ⟨hr, hl4, hk4⟩ := fin (some .ret) W3 hp.1
          exact ⟨_, _, hr, .inr ⟨rfl, .ret, hxst _ _ _ _ hp.2 (pb _ _ (sz3 _ hp.1)), hl4, hk4⟩, abv _ hab⟩
        | exit id =>
          obtain ⟨hp, hab⟩ := hp
          obtain ⟨hr, hl4, hk4⟩ := fin (some (.exit id)) W3 hp.1
          exact ⟨_, _, hr, .inr ⟨rfl, .exit id, hxst _ _ _ _ hp.2 (pb _ _ (sz3 _ hp.1)), hl4, hk4⟩, abv _ hab⟩
        | goto t =>
          obtain ⟨hp, hab⟩ := hp
          obtain ⟨hr, hl4, hk4⟩ := fin (some (.goto t)) W3 hp.1
          exact ⟨_, _, hr, .inr ⟨rfl, .goto t, hxst _ _ _ _ hp.2 (pb _ _ (sz3 _ hp.1)), hl4, hk4⟩, abv _ hab⟩
        | panic ch => exact hp.elim
        | outgrown => exact hp.elim
      | exit id => exact he.elim
      | goto t => exact he.elim
      | ret => exact he.elim
      | panic c => exact he.elim
      | outgrown => exact he.elim
    · rintro e W2 ⟨⟨v, rfl⟩, (⟨G, hi, hl, hd⟩ | ⟨k, _, c, hi, hl, hd⟩)⟩
      · have hlt : w.heap.size + 1 < W2.heap.size := (Array.getElem?_eq_some_iff.1 hl).1
        exact ⟨none, _, by have := run_endLoop (P := P) hl (by rw [hrec]; simp); rw [hrec] at this; exact this, hdone _ _ _ rfl (hst _ _ _ _ hi ⟨(putObj_out _ _ _).below (by omega) (by simp), fun g hg _ => World.putObj_heap_other (by have := hG _ _ _ hi g hg; omega)⟩) ((World.putObj_heap_other (by omega)).trans hd)⟩
      · have hlt : w.heap.size + 1 < W2.heap.size := (Array.getElem?_eq_some_iff.1 hl).1
        exact ⟨some c, _, by have := run_endLoop (P := P) hl (by rw [hrec]; simp); rw [hrec] at this; exact this, hstop _ c k _ rfl (hxst _ _ _ _ hi ((putObj_out _ _ _).below (by omega) (by simp))) ((World.putObj_heap_other (by omega)).trans hd)⟩
end Go.Proofs.Ytdlpfiiakmhnlaa

namespace Go.Proofs.Ytdlpfiiakmhnlaa
open Go.RowKit Go.Shelf

theorem nameIn {F : Fence} {n : Nat} {P : Program} {c : Code} {Q : Exit → Act → World → Prop} {a : Act} {w : World} (h : ∀ W, W = w → c.wpIn F n P Q a W) : c.wpIn F n P Q a w := h w rfl
theorem Around_is (t : Nat) (a : Int) (w : World) :
    Calls Try.prog 29 #[ptr t 0, .int .i64 a] w fun e w' => e = .returned (.func (.func 67) #[] #[ptr w.heap.size 0, ptr (w.heap.size + 1) 0]) ∧ Blk w' w.heap.size #[ptr t 0] 25 ∧ Blk w' (w.heap.size + 1) #[.int .i64 a] 3 ∧ Below w.heap.size w w' := by
  go_enter Try.func29, Try.ntmps29
  go_wp2
  go_ret
  exact ⟨rfl, (Blk.new _ _ _).alloc _, Blk.new1 _ _ _ _, below_a2 _ _ _⟩
/-- the halves of a vertex, none where it is none -/
def rowO (N : Nat) (O : Nat → List (Nat × Nat)) (a : Int) : List (Nat × Nat) := if 0 ≤ a ∧ a < N then O a.toNat else []
def arE (L : List (Nat × Nat)) (k : Nat) : Array Value := #[.int .i64 (L.getD k (0, 0)).1, .int .i64 (L.getD k (0, 0)).2]
set_option maxRecDepth 100000 in
set_option maxHeartbeats 2000000 in
theorem Around1_any (m lid bs ba t B : Nat) (D : SD) (N : Nat) (X Y : Nat → Int) (O : Nat → List (Nat × Nat)) (n a : Int) (L : List (Nat × Nat)) (hL : rowO N O a = L) (I : (Nat → Prop) → Nat → World → Prop) (Ix : Nat → World → Prop)
    (hm : ∀ G k W, I G k W → Blk W bs #[ptr t 0] 25 ∧ Blk W ba #[.int .i64 a] 3 ∧ SM W t D N X Y O n) (hst : ∀ G k W W', I G k W → BelowX B G W W' → I G k W')
    (hY : ∀ G k W, k < L.length → I G k W → YieldAt Fence.wide m Try.prog lid (arE L k) W fun e W' => ((e = .returned (.bool true) ∧ ∃ G', (∀ g, G' g → G g ∨ W.heap.size ≤ g) ∧ I G' (k + 1) W') ∨ (e = .returned (.bool false) ∧ Ix (k + 1) W')) ∧ AboveX B G W W')
    (W : World) (hB : B ≤ W.heap.size) (h0 : I (fun _ => False) 0 W) :
    CallsIn Fence.wide (m + 1) Try.prog 67 #[.func (.yield lid) #[] #[], ptr bs 0, ptr ba 0] W fun e W' => (∃ v, e = .returned v) ∧ ((∃ G, I G L.length W') ∨ ∃ k, k ≤ L.length ∧ Ix k W') := by
  refine callsIn_of_wp Try.func67 rfl trivial ?_ rfl
  simp only [Try.ntmps67, List.size_toArray, List.length_cons, List.length_nil, Nat.reduceAdd, Nat.reduceSub, Array.replicate_succ, Array.replicate_zero, List.push_toArray, List.append_toArray, List.nil_append, List.cons_append]
  obtain ⟨ks, ka, hM⟩ := hm _ 0 W h0
  have b0 := ks.cell 0
  have b1 := ka.cell 0
  simp only [List.getElem?_toArray, List.getElem?_cons_zero] at b0 b1
  have HM := Lib.hid hM
  have HH := Lib.hid (And.intro hm (And.intro hst hY))
  have H0 := Lib.hid h0
  clear hM hm hst hY h0
  gi_wp2_with fail
  refine ⟨trivial, callsIn_wide.2 ?_⟩
  refine (has_is t D N X Y O n a _ HM.out).mono ?_
  rintro e W1 ⟨rfl, hb1⟩
  have HM1 := Lib.hid (HM.out.of hb1)
  have H1 := Lib.hid (HH.out.2.1 _ 0 W W1 H0.out (.all hb1 hB))
  have k1 := ks.of hb1
  have k2 := ka.of hb1
  have hB1 : B ≤ W1.heap.size := Nat.le_trans hB hb1.size
  clear HM H0 b0 b1 ks ka hb1
  have b0 := k1.cell 0
  have b1 := k2.cell 0
  have l0 := k1.lt
  have l1 := k2.lt
  simp only [List.getElem?_toArray, List.getElem?_cons_zero] at b0 b1
  by_cases ha : 0 ≤ a ∧ a < N
  · obtain ⟨a', rfl⟩ : ∃ a' : Nat, a = a' := ⟨a.toNat, by omega⟩
    have haN : a' < N := by omega
    obtain rfl : L = O a' := by rw [← hL]; unfold rowO; rw [if_pos ha]; rfl
    have hh : hasI N (a' : Int) = true := by unfold hasI; simp; omega
    rw [hh]
    have HROW := Lib.hid (HM1.out.rows a' haN)
    obtain ⟨c0, c1, c2⟩ := HM1.out.c
    have cr := HM1.out.row haN
    have hsm := HM1.out.small
    have hln := HM1.out.len a' haN
    obtain ⟨ao, cap, hv, hc1, hc2, hc3⟩ := HROW.out.val
    have HC3 := Lib.hid hc3
    have lc := HM1.out.lt (.inl rfl)
    have lo := HM1.out.lt (.inr (.inl rfl))
    rw [hv] at cr
    have HV := Lib.hid hv
    clear hh hc3 hv hL
    gi_wp2_with fail
    gi_region
    have H2 := Lib.hid (HH.out.2.1 _ 0 W1 W1.drew H1.out (.all (Below.refl _ _).drew hB1))
    obtain ⟨len, hlen⟩ : ∃ l, (O a').length = l := ⟨_, rfl⟩
    have HLEN := Lib.hid hlen
    rw [hlen] at hc1 HC3 hln cr HV ⊢
    have hB2 : B ≤ W1.drew.heap.size := hB1
    clear H1 HM1 HROW HC3 b0 b1 k1 k2 l0 l1 c0 c1 c2 cr lc lo hlen hB1
    gi_wp2_with fail
    gi_loopg [18] len (fun gk s18 wr => ∃ k : Nat, s18 = .int .i64 k ∧ k ≤ len ∧ len - k ≤ gk ∧ Hid (∃ G, I G k wr) ∧ B ≤ wr.heap.size)
    case atStart => exact ⟨0, rfl, Nat.zero_le _, Nat.le_refl _, Lib.hid ⟨_, H2.out⟩, hB2⟩
    case round =>
      clear H2 hB2
      obtain ⟨k, rfl, hk, hgk, HI, hB2⟩ := hrel
      obtain ⟨G, HI⟩ := HI.out
      have HI := Lib.hid HI
      by_cases hlt : k < len
      · obtain ⟨ks, ka, hM⟩ := HH.out.1 _ k wr HI.out
        obtain ⟨ao', cap', hv', _, _, hc3'⟩ := (hM.rows a' haN).val
        rw [HV.out] at hv'
        injection hv' with e1 e2 e3
        subst e1
        obtain ⟨g, rfl, _, hgl, hcell⟩ := hc3' (by rw [HLEN.out]; omega)
        obtain ⟨x, hx⟩ : ∃ x, (O a')[k]? = some x := ⟨_, List.getElem?_eq_getElem (show k < (O a').length by rw [HLEN.out]; omega)⟩
        have hcx := hcell k x hx
        have hE : arE (O a') k = #[.int .i64 x.1, .int .i64 x.2] := by unfold arE; rw [List.getD_eq_getElem?_getD, hx]; rfl
        obtain ⟨xt, xc⟩ := x
        have p0 : wr.cell? ⟨g, k * 2, none⟩ = some (.int .i64 (xt : Int)) := hcx.1
        have p1 : wr.cell? ⟨g, k * 2 + 1, none⟩ = some (.int .i64 (xc : Int)) := hcx.2
        have HE := Lib.hid hE
        have hIV := HH.out.2.1 _ k wr (wr.alloc (.cells #[.int .i64 (xt : Int), .int .i64 (xc : Int)] 102)) HI.out (.all ((Below.refl _ _).alloc (Nat.le_refl _) _) hB2)
        obtain ⟨fn, tmps, assign, body, hy, hR⟩   := HH.out.2.2 _ k _ (by rw [HLEN.out]; exact hlt) hIV
        rw [HE.out] at hy
        have hBV : B ≤ (wr.alloc (.cells #[.int .i64 (xt : Int), .int .i64 (xc : Int)] 102)).heap.size := by simp; omega
        have HBV := Lib.hid hBV
        clear ks ka hM hcell hcx hx e2 e3 hc3' hE hIV HI hBV
        gi_wp2
        refine hR.mono ?_
        rintro e W3 ⟨(⟨rfl, G3, _, hI3⟩ | ⟨rfl, hx3⟩), hab⟩
        · have HI3 : Hid (∃ G, I G (k + 1) W3) := Lib.hid ⟨_, hI3⟩
          have hB3 : B ≤ W3.heap.size := Nat.le_trans HBV.out hab.size
          clear hI3 hab HBV hy hR p0 p1 hB2
          gi_wp2_with fail
          gi_roundg (len - (k + 1))
          case measure => omega
          case rel => exact ⟨k + 1, by norm_cast, by omega, Nat.le_refl _, HI3, hB3⟩
        · have HX := Lib.hid hx3
          have hkl : k + 1 ≤ (O a').length := by rw [HLEN.out]; omega
          clear hx3 hab HBV hy hR p0 p1 hB2
          gi_wp2
          refine bodyPost_ret (results_none rfl _ _ _) rfl ?_
          exact ⟨⟨_, rfl⟩, .inr ⟨k + 1, hkl, HX.out⟩⟩
      · have hkl : k = len := by omega
        have HF := Lib.hid (show ∃ G, I G (O a').length wr by rw [HLEN.out, ← hkl]; exact ⟨_, HI.out⟩)
        clear HI
        gi_wp2
        go_end0
        exact ⟨⟨_, rfl⟩, .inl HF.out⟩
  · obtain rfl : L = [] := by rw [← hL]; unfold rowO; rw [if_neg ha]
    have hh : hasI N a = false := by unfold hasI; simp; omega
    rw [hh]
    clear hh hL
    gi_wp2
    refine bodyPost_ret (results_none rfl _ _ _) rfl ?_
    exact ⟨⟨_, rfl⟩, .inl ⟨_, H1.out⟩⟩
theorem Around1_tells (bs ba t : Nat) (D : SD) (N : Nat) (X Y : Nat → Int) (O : Nat → List (Nat × Nat)) (n a : Int) (L : List (Nat × Nat)) (hL : rowO N O a = L) (B : Nat) :
    TellsX Try.prog 67 #[ptr bs 0, ptr ba 0] L.length (arE L) B (fun W => Blk W bs #[ptr t 0] 25 ∧ Blk W ba #[.int .i64 a] 3 ∧ SM W t D N X Y O n) :=
  fun m lid I Ix hK _ hst _ hY W hB h0 => Around1_any m lid bs ba t B D N X Y O n a L hL I Ix hK hst hY W hB h0
end Go.Proofs.Ytdlpfiiakmhnlaa

namespace Go.Proofs.Ytdlpfiiakmhnlaa
open Go.RowKit Go.Shelf
attribute [local go_sem] Oper.semAt_some

/-- the marks that ranges over functions leave in a frame -/
def Marks (y : Nat) (w : World) : List Deferred → Prop
  | [] => True
  | d :: ds => (∃ r, d = { target := .collected r, args := #[] } ∧ y < r ∧ w.heap[r]? = some (.deferred (some [])) ∧ ∀ d', d' ∈ ds → ∀ r', d'.target = .collected r' → r' < r) ∧ Marks y w ds
theorem Marks.keep {y : Nat} {w w' : World} : ∀ {ds : List Deferred}, Marks y w ds → (∀ r, y < r → r < w.heap.size → w'.heap[r]? = w.heap[r]?) → Marks y w' ds := by
  intro ds
  induction ds with
  | nil => intro _ _; trivial
  | cons d ds ih =>
    rintro ⟨⟨r, h1, h2, h3, h4⟩, h5⟩ hk
    exact ⟨⟨r, h1, h2, (hk r h2 (Array.getElem?_eq_some_iff.1 h3).1).trans h3, h4⟩, ih h5 hk⟩
theorem Marks.lt {y : Nat} {w : World} : ∀ {ds : List Deferred}, Marks y w ds → ∀ d, d ∈ ds → ∀ r, d.target = .collected r → r < w.heap.size := by
  intro ds
  induction ds with
  | nil => intro _ d hd; cases hd
  | cons d ds ih =>
    rintro ⟨⟨r, h1, h2, h3, h4⟩, h5⟩ d' hd' r' hr'
    rcases List.mem_cons.1 hd' with rfl | hd'
    · rw [h1] at hr'
      injection hr' with hr'
      rw [← hr']; exact (Array.getElem?_eq_some_iff.1 h3).1
    · exact ih h5 d' hd' r' hr'
theorem Marks.putOld {y : Nat} {w : World} {D : Nat} {o : Obj} : ∀ {ds : List Deferred}, Marks y w ds → (∀ d, d ∈ ds → ∀ r, d.target = .collected r → r < D) → Marks y (w.putObj D o) ds := by
  intro ds
  induction ds with
  | nil => intro _ _; trivial
  | cons d ds ih =>
    rintro ⟨⟨r, h1, h2, h3, h4⟩, h5⟩ hD
    have := hD d (List.mem_cons_self ..) r (by rw [h1])
    exact ⟨⟨r, h1, h2, (World.putObj_heap_other (by omega)).trans h3, h4⟩, ih h5 fun d' hd' => hD d' (List.mem_cons_of_mem _ hd')⟩
theorem leaves_marks {F : Fence} {n : Nat} {P : Program} {fn : Func} {tmps : Array Value} {R : Ending → World → Prop} {y B : Nat} (hB : B ≤ y) (G : Nat → Prop) : ∀ (ds : List Deferred) (w : World), B ≤ w.heap.size → Marks y w ds → (∀ d, d ∈ ds → ∀ r, d.target = .collected r → ¬ G r) → (∀ w', BelowX B G w w' → LeavesInM F n P fn tmps R [] .returning w') → LeavesInM F n P fn tmps R ds .returning w := by
  intro ds
  induction ds with
  | nil => intro w hw _ _ h; exact h w ⟨⟨rfl, rfl, rfl, Nat.le_refl _, fun _ _ => rfl⟩, fun _ _ _ => rfl⟩
  | cons d ds ih =>
    rintro w hw ⟨⟨r, h1, h2, h3, h4⟩, h5⟩ hn h
    refine ⟨by simp, .inl ⟨r, _, by rw [h1], run_takeDeferred h3, ?_⟩⟩
    have hb : Below B w (w.putObj r (.deferred none)) := (putObj_out w r _).below hw (by simp; omega)
    have hx : BelowX B G w (w.putObj r (.deferred none)) := ⟨hb, fun g hg _ => World.putObj_heap_other fun e => hn d (List.mem_cons_self ..) r (by rw [h1]) (by rw [← e]; exact hg)⟩
    exact ih _ (Nat.le_trans hw hb.size) (h5.putOld h4) (fun d' hd' => hn d' (List.mem_cons_of_mem _ hd')) fun w' hw' => h w' (hx.trans hw')
end Go.Proofs.Ytdlpfiiakmhnlaa

namespace Go.Proofs.Ytdlpfiiakmhnlaa
open Go.RowKit Go.Shelf
attribute [local go_sem] Oper.semAt_some

def tC (l : List Tri3) : List Value := l.flatMap fun t => [.int .i64 (t.1 : Nat), .int .i64 (t.2.1 : Nat), .int .i64 (t.2.2 : Nat)]
/-- an owned slice of triangles -/
def TL (w : World) (base : Nat) (v : Value) (L : List Tri3) : Prop := w.ownsRow base 35 3 v L.length (tC L)
theorem TL.none {w : World} {base : Nat} : TL w base (.slice none 0 0) [] := ⟨rfl, .inl ⟨rfl, rfl⟩⟩
theorem TL.of {w w' : World} {base : Nat} {v : Value} {L : List Tri3} (h : TL w base v L) (hb : ∀ g, v.ownBlock = some g → w'.heap[g]? = w.heap[g]?) : TL w' base v L := by
  refine ⟨h.1, h.2.imp id ?_⟩
  rintro ⟨g, cap, cur, rfl, hbg, hh, r⟩
  exact ⟨g, cap, cur, rfl, hbg, (hb g rfl).trans hh, r⟩
theorem own_belowT {w w' : World} {base : Nat} {v : Value} {n : Nat} {xs : List Value} {e : TypeId} {sz : Nat} (h : w.ownsRow base e sz v n xs) (hb : Below w.heap.size w w') : w'.ownsRow base e sz v n xs := by
  refine ⟨h.1, h.2.imp id ?_⟩
  rintro ⟨g, cap, cur, rfl, hbg, hg, r⟩
  exact ⟨g, cap, cur, rfl, hbg, (hb.block _ (Array.getElem?_eq_some_iff.1 hg).1).trans hg, r⟩
theorem TL.lt {w : World} {base : Nat} {v : Value} {L : List Tri3} (h : TL w base v L) {g : Nat} (hg : v.ownBlock = some g) : base ≤ g ∧ g < w.heap.size := World.ownsRow.lt h g hg
end Go.Proofs.Ytdlpfiiakmhnlaa

namespace Go.Proofs.Ytdlpfiiakmhnlaa
open Go.RowKit

/-- the sides put, and the hull around them -/
structure Brd (h : List Nat) (l : List Tri3) : Prop where
  way : ∀ i, i < h.length → gSd l (gH h i) (gH h ((i + 1) % h.length))
  rev : ∀ a b, gSd l a b → gSd l b a ∨ ∃ i, i < h.length ∧ a = gH h i ∧ b = gH h ((i + 1) % h.length)
theorem Sd_l {l l' : List Tri3} {a b : Nat} (h : gSd l a b) : gSd (l ++ l') a b := by
  obtain ⟨t, ht, s⟩ := h; exact ⟨t, List.mem_append_left _ ht, s⟩
theorem Sd_r {l l' : List Tri3} {a b : Nat} (h : gSd l' a b) : gSd (l ++ l') a b := by
  obtain ⟨t, ht, s⟩ := h; exact ⟨t, List.mem_append_right _ ht, s⟩
theorem begT_mem {b : List Nat} {q k : Nat} (hk : k < q - 1) : (gH b k, gH b (k + 1), q) ∈ begT b q := List.mem_iff_getElem?.2 ⟨k, begT_at b q k hk⟩
theorem addT_mem2 {h : List Nat} {p f j k : Nat} (hk : k < j) : (gH h ((f + k) % h.length), p, gH h ((f + (k + 1)) % h.length)) ∈ addT h p f j := by
  refine List.mem_iff_getElem?.2 ⟨k, ?_⟩
  rw [addT_at h p f j k hk]
  show some (_, _, gH h (((f + k) % h.length + 1) % h.length)) = _
  rw [Nat.mod_add_mod]; rfl
theorem beg_brd {b : List Nat} {q : Nat} (h2 : 2 ≤ q) (hb : b.length = q) : Brd (b ++ [q]) (begT b q) := by
  have ll : (b ++ [q]).length = q + 1 := by simp [hb]
  have gq : gH (b ++ [q]) q = q := by have := gH_app2 b q; rwa [hb] at this
  have gi : ∀ i, i < q → gH (b ++ [q]) i = gH b i := fun i hi => gH_app _ _ i (by omega)
  refine ⟨fun i hi => ?_, fun x y ⟨t, ht, s⟩ => ?_⟩
  · rw [ll] at hi ⊢
    rcases Nat.lt_or_ge i q with h | h
    · rw [Nat.mod_eq_of_lt (by omega), gi i h]
      rcases Nat.lt_or_ge (i + 1) q with h4 | h4
      · rw [gi _ h4]
        exact ⟨_, begT_mem (show i < q - 1 by omega), .inl ⟨rfl, rfl⟩⟩
      · rw [show i + 1 = q by omega, gq]
        exact ⟨_, begT_mem (show q - 2 < q - 1 by omega), .inr (.inl ⟨by rw [show q - 2 + 1 = i by omega], rfl⟩)⟩
    · rw [show i = q by omega, Nat.mod_self, gq, gi 0 (by omega)]
      exact ⟨_, begT_mem (show 0 < q - 1 by omega), .inr (.inr ⟨rfl, rfl⟩)⟩
  · obtain ⟨k, hk⟩ := List.mem_iff_getElem?.1 ht
    obtain ⟨hk, rfl⟩ := begT_get _ _ _ _ hk
    rcases s with ⟨e1, e2⟩ | ⟨e1, e2⟩ | ⟨e1, e2⟩ <;> simp only [] at e1 e2 <;> rw [e1, e2] <;> clear e1 e2
    · refine .inr ⟨k, by omega, (gi k (by omega)).symm, ?_⟩
      rw [ll, Nat.mod_eq_of_lt (by omega), gi _ (by omega)]
    · rcases Nat.lt_or_ge (k + 1) (q - 1) with h | h
      · exact .inl ⟨_, begT_mem h, .inr (.inr ⟨rfl, rfl⟩)⟩
      · refine .inr ⟨k + 1, by omega, (gi _ (by omega)).symm, ?_⟩
        rw [ll, Nat.mod_eq_of_lt (by omega), show k + 1 + 1 = q by omega, gq]
    · cases k with
      | zero =>
        refine .inr ⟨q, by omega, gq.symm, ?_⟩
        rw [ll, Nat.mod_self, gi 0 (by omega)]
      | succ k => exact .inl ⟨_, begT_mem (show k < q - 1 by omega), .inr (.inl ⟨rfl, rfl⟩)⟩
theorem Brd.next {h : List Nat} {l : List Tri3} (B : Brd h l) (h3 : 3 ≤ h.length) {p f j : Nat} (hf : f < h.length) (hj0 : 0 < j) (hj1 : j < h.length) : Brd (addH h p f j) (l ++ addT h p f j) := by
  have ml : ∀ k, k % h.length < h.length := fun k => Nat.mod_lt _ (by omega)
  have hl := addH_len (h := h) p f j
  have f0 : gH h f = gH h ((f + 0) % h.length) := by rw [show (f + 0) % h.length = f from Nat.mod_eq_of_lt hf]
  have nx2 : ∀ c, c < h.length - j → gH (addH h p f j) ((c + 2 + 1) % (addH h p f j).length) = gH h ((f + j + c + 1) % h.length) := fun c hc => by
    rcases Nat.lt_or_ge (c + 1) (h.length - j) with h4 | h4
    · rw [Nat.mod_eq_of_lt (by omega), show c + 2 + 1 = (c + 1) + 2 by omega, addH_2 _ _ _ _ h4, show f + j + (c + 1) = f + j + c + 1 by omega]
    · rw [show c + 2 + 1 = (addH h p f j).length by omega, Nat.mod_self, addH_0, show f + j + c + 1 = f + h.length by omega, Nat.add_mod_right, Nat.mod_eq_of_lt hf]
  refine ⟨fun i hi => ?_, fun x y s => ?_⟩
  · match i, hi with
    | 0, _ =>
      rw [show (0 + 1) % (addH h p f j).length = 1 from Nat.mod_eq_of_lt (by omega), addH_1, addH_0, f0]
      exact Sd_r ⟨_, addT_mem2 hj0, .inl ⟨rfl, rfl⟩⟩
    | 1, _ =>
      rw [show (1 + 1) % (addH h p f j).length = 0 + 2 from Nat.mod_eq_of_lt (by omega), addH_2 _ _ _ _ (by omega), addH_1]
      exact Sd_r ⟨_, addT_mem2 (show j - 1 < j by omega), .inr (.inl ⟨rfl, by rw [show f + (j - 1 + 1) = f + j + 0 by omega]⟩)⟩
    | c + 2, hi =>
      have hc : c < h.length - j := by omega
      rw [nx2 c hc, addH_2 _ _ _ _ hc]
      have := B.way ((f + j + c) % h.length) (ml _)
      rw [Nat.mod_add_mod] at this
      exact Sd_l this
  · rcases Sd_app s with s | ⟨t, ht, s⟩
    · rcases B.rev x y s with s | ⟨i, hi, rfl, rfl⟩
      · exact .inl (Sd_l s)
      · obtain ⟨k, hk, rfl⟩ : ∃ k, k < h.length ∧ i = (f + k) % h.length := by
          rcases Nat.lt_or_ge i f with h4 | h4
          · exact ⟨i + h.length - f, by omega, by rw [show f + (i + h.length - f) = i + h.length by omega, Nat.add_mod_right, Nat.mod_eq_of_lt hi]⟩
          · exact ⟨i - f, by omega, by rw [show f + (i - f) = i by omega, Nat.mod_eq_of_lt hi]⟩
        rw [Nat.mod_add_mod]
        rcases Nat.lt_or_ge k j with h4 | h4
        · exact .inl (Sd_r ⟨_, addT_mem2 h4, .inr (.inr ⟨rfl, rfl⟩)⟩)
        · refine .inr ⟨k - j + 2, by omega, ?_, ?_⟩
          · rw [addH_2 _ _ _ _ (by omega), show f + j + (k - j) = f + k by omega]
          · rw [nx2 _ (by omega), show f + j + (k - j) + 1 = f + k + 1 by omega]
    · obtain ⟨k, hk, rfl⟩ := addT_mem _ _ _ _ ht
      rcases s with ⟨e1, e2⟩ | ⟨e1, e2⟩ | ⟨e1, e2⟩ <;> simp only [] at e1 e2 <;> rw [e1, e2] <;> clear e1 e2
      · cases k with
        | zero =>
          refine .inr ⟨0, by omega, by rw [addH_0, f0], ?_⟩
          rw [show (0 + 1) % (addH h p f j).length = 1 from Nat.mod_eq_of_lt (by omega), addH_1]
        | succ k => exact .inl (Sd_r ⟨_, addT_mem2 (show k < j by omega), .inr (.inl ⟨rfl, rfl⟩)⟩)
      · rcases Nat.lt_or_ge (k + 1) j with h4 | h4
        · exact .inl (Sd_r ⟨_, addT_mem2 h4, .inl ⟨rfl, rfl⟩⟩)
        · refine .inr ⟨1, by omega, by rw [addH_1], ?_⟩
          rw [show (1 + 1) % (addH h p f j).length = 0 + 2 from Nat.mod_eq_of_lt (by omega), addH_2 _ _ _ _ (by omega), show f + (k + 1) = f + j + 0 by omega]
      · have := B.way ((f + k) % h.length) (ml _)
        rw [Nat.mod_add_mod] at this
        exact .inl (Sd_l this)
/-- what lies around, behind q + k points -/
theorem bld_brd {N q : Nat} {X Y : Nat → Int} (hg : allC N X Y = true) (hr : risC N X Y) (hl : isLn N X Y q) (hq : q < N) : ∀ k, q + k < N → Brd (bld X Y q k).1 (bld X Y q k).2 := by
  intro k
  have h2 : 2 ≤ q := by have := hl.1; omega
  induction k with
  | zero => intro _; exact beg_brd h2 (begH_len X Y q)
  | succ k ih =>
    intro hk
    have A := bld_add (sX_ris hg hr) (wy_gT hg) h2 hq (fun i h1 h2 => hl.2.2.1 i h1 h2) (hl.2.2.2 hq) k hk
    exact (ih (by omega)).next (bld_st hg hr hl hq k (by omega)).1.len A.f0 A.j0 A.j1
end Go.Proofs.Ytdlpfiiakmhnlaa

namespace Go.Proofs.Ytdlpfiiakmhnlaa
open Go.RowKit

/-- the next one around: the first end to which there is a side without a reverse -/
def nxtO (O : Nat → List (Nat × Nat)) (a : Nat) : Option Nat := ((O a).find? fun x => (lookH (O x.1) a).isNone).map (·.1)
structure HC (N : Nat) (O : Nat → List (Nat × Nat)) (H : List Nat) : Prop where
  pos : 0 < H.length
  len : H.length ≤ N
  zero : gH H 0 = 0
  nz : ∀ i, 0 < i → i < H.length → gH H i ≠ 0
  lt : ∀ i, i < H.length → gH H i < N
  nxt : ∀ i, i < H.length → nxtO O (gH H i) = some (gH H ((i + 1) % H.length))
theorem rep_mem {O : Nat → List (Nat × Nat)} {S : Nat → Nat → Prop} (h : RepS O S) {a : Nat} {x : Nat × Nat} (hx : x ∈ O a) : S a x.1 := by
  refine Classical.byContradiction fun hn => ?_
  exact lookH_absent ((h.2 a x.1).2 hn) x hx rfl
theorem rep_has {O : Nat → List (Nat × Nat)} {S : Nat → Nat → Prop} (h : RepS O S) {a b : Nat} (hs : S a b) : ∃ x, x ∈ O a ∧ x.1 = b := by
  refine Classical.byContradiction fun hn => ?_
  refine (h.2 a b).1 (lookH_none fun x hx he => hn ⟨x, hx, by omega⟩) hs
def rotH (h : List Nat) (z : Nat) : List Nat := (List.range h.length).map fun k => gH h ((z + k) % h.length)
theorem rotH_len (h : List Nat) (z : Nat) : (rotH h z).length = h.length := by unfold rotH; simp
theorem rotH_at {h : List Nat} {z k : Nat} (hk : k < h.length) : gH (rotH h z) k = gH h ((z + k) % h.length) := by
  show ((List.range h.length).map fun k => gH h ((z + k) % h.length)).getD k 0 = _
  rw [List.getD_eq_getElem?_getD, List.getElem?_map, List.getElem?_range hk]; rfl
theorem nxt_of {X Y : Nat → Int} {m : Nat} {h : List Nat} {l : List Tri3} {O : Nat → List (Nat × Nat)} (H : Hul X Y m h) (B : Bnd m h l) (R : Brd h l) (hO : RepS O (gSd l)) {i : Nat} (hi : i < h.length) : nxtO O (gH h i) = some (gH h ((i + 1) % h.length)) := by
  obtain ⟨x0, hm, he⟩ := rep_has hO (R.way i hi)
  have hp : (lookH (O x0.1) (gH h i : Nat)).isNone = true := by
    rw [he, (hO.2 _ _).2 (B.new i hi)]; rfl
  unfold nxtO
  cases hf : (O (gH h i)).find? fun x => (lookH (O x.1) (gH h i : Nat)).isNone with
  | none => exact absurd hp (by rw [List.find?_eq_none] at hf; exact hf x0 hm)
  | some y =>
    have hy := List.find?_some hf
    have hym := List.mem_of_find?_eq_some hf
    have s1 := rep_mem hO hym
    have s2 : ¬ gSd l y.1 (gH h i) := (hO.2 _ _).1 (by rw [Option.isNone_iff_eq_none] at hy; exact hy)
    rcases R.rev _ _ s1 with s3 | ⟨i', hi', e1, e2⟩
    · exact absurd s3 s2
    · have := H.nd _ _ hi hi' e1
      subst this
      show some y.1 = _
      rw [e2]
theorem hc_of {X Y : Nat → Int} {N m : Nat} {h : List Nat} {l : List Tri3} {O : Nat → List (Nat × Nat)} (H : Hul X Y m h) (B : Bnd m h l) (R : Brd h l) (hO : RepS O (gSd l)) (hN : N = m + 1) : ∃ z, z < h.length ∧ gH h z = 0 ∧ HC N O (rotH h z) := by
  obtain ⟨z, hz, hz0⟩ := H.zero
  have h3 := H.len
  have ml : ∀ k, k % h.length < h.length := fun k => Nat.mod_lt _ (by omega)
  have hl := rotH_len h z
  refine ⟨z, hz, hz0, by omega, by have := B.hln; omega, ?_, fun i h0 hi => ?_, fun i hi => ?_, fun i hi => ?_⟩
  · rw [rotH_at (by omega), Nat.add_zero, Nat.mod_eq_of_lt hz, hz0]
  · rw [hl] at hi
    rw [rotH_at hi]
    intro e
    have := H.nd _ _ (ml _) hz (e.trans hz0.symm)
    have h5 : i = 0 := g_mod_inj (f := z) hi (by omega) (by rw [this, Nat.add_zero, Nat.mod_eq_of_lt hz])
    omega
  · rw [hl] at hi
    rw [rotH_at hi]
    have := H.le _ (ml (z + i)); omega
  · rw [hl] at hi ⊢
    rw [rotH_at hi, rotH_at (ml _), nxt_of H B R hO (ml _), Nat.mod_add_mod]
    congr 2
    rw [show z + i + 1 = z + (i + 1) by omega, Nat.add_mod_mod]
end Go.Proofs.Ytdlpfiiakmhnlaa

namespace Go.Proofs.Ytdlpfiiakmhnlaa
open Go.RowKit Go.Shelf
attribute [local go_sem] Oper.semAt_some undef

theorem stepR_scope {P : Program} {b : Frame} {a : Act} {k : List Item} {cs : List Frame} {w : World} {c : Code} : step P (lone (b.atR a (.code (.scope c) :: k)) cs w) = .next (lone (b.atR a (.code c :: .inScope c :: k)) cs w) :=
  step_lone_go (by simp [stepG, stepG.exec, Frame.atR])
theorem stepR_inScope {P : Program} {b : Frame} {a : Act} {k : List Item} {cs : List Frame} {w : World} {c : Code} : step P (lone (b.atR a (.inScope c :: k)) cs w) = .next (lone (b.atR a k) cs w) :=
  step_lone_go (by simp [stepG, stepG.exec, Frame.atR])
theorem wpIn_scope {F : Fence} {n : Nat} {P : Program} {Q : Exit → Act → World → Prop} {a : Act} {w : World} {c : Code} (h : c.wpIn F n P (Exit.noGoto Q) a w) : (Code.scope c).wpIn F n P Q a w := by
  intro b k cs hro hb hr
  have h0 : (lone (b.atR a (.code (.scope c) :: k)) cs w).fenced P F := fenced_calm hb hr rfl
  obtain ⟨e, a₁, w₁, hq, harr⟩ := h b (.inScope c :: k) cs hro hb hr
  cases e with
  | normal => exact ⟨.normal, a₁, w₁, hq, .head h0 stepR_scope (StepsIn.trans harr (.one (fenced_calm hb hr rfl) stepR_inScope))⟩
  | exit id =>
    have hx : exitTo id (.inScope c :: k) = exitTo id k := by simp [exitTo]
    exact ⟨.exit id, a₁, w₁, hq, fun k' hk => .head h0 stepR_scope (harr.1 k' (by rw [hx]; exact hk)),
      fun hr' hk => let ⟨k₁, h1, h2⟩ := harr.2 hr' (by rw [hx]; exact hk); ⟨k₁, h1, .head h0 stepR_scope h2⟩⟩
  | goto l => exact hq.elim
  | ret => exact ⟨_, a₁, w₁, hq, .of_steps (.one h0 stepR_scope) harr⟩
  | panic ch => exact ⟨_, a₁, w₁, hq, .of_steps (.one h0 stepR_scope) harr⟩
  | outgrown => exact ⟨_, a₁, w₁, hq, .of_steps (.one h0 stepR_scope) harr⟩
theorem wpListIn_append_nl {F : Fence} {nF : Nat} {w : World} {ops : Array Oper} {rest : List Oper} {o : Oper} {a : Act} {Q : Exit → Act → World → Prop} (hgd : o.guard = none) (s x : Operand)
    (ho : o.op = .call { callee := .builtin .append, args := #[s, x], argTypes := #[29, 29] })
    (base : Nat) (v : Value) (L : List Nat) (y : Nat) (vb : Nat) (hs : a.eval s = v) (hx : a.eval x = .slice (some ⟨vb, 0, none⟩) 1 1) (hb : Blk w vb #[.int .i64 (y : Nat)] 3)
    (hnl : NL w base v L) (hL : L.length < 100000) (hbase : base ≤ w.heap.size)
    (h : ∀ ao n cap w', n = L.length + 1 → NL w' base (.slice ao n cap) (L ++ [y]) → w.grownBy w' v.ownBlock → wpListIn F nF Try.prog ops Q rest (a.put o.dst (.slice ao n cap)) w') : wpListIn F nF Try.prog ops Q (o :: rest) a w := by
  obtain ⟨i0, hi, hz0, hz1, hz2⟩ := info_parts info_int
  refine wpListIn_append_own_at _ hgd s x 29 ho base 3 i0 (.int .i64 0) 1 8 Try.underlying29 hi hz0 hz1 hz2 rfl (by decide) v L.length _ hs hnl ⟨vb, 0, none⟩ 1 1 [.int .i64 y] hx rfl (int_src hb) (int_one _) (by unfold maxLen; omega) (by omega) hbase ?_
  intro v' w' own gr _ _
  have hn : NL w' base v' (L ++ [y]) := by
    unfold NL
    rw [List.length_append, List.map_append]; exact own
  obtain ⟨ao, cap, rfl, _⟩ := hn.val
  exact h ao _ cap w' (by simp) hn gr
theorem NL.low2 {w : World} {base base' : Nat} {v : Value} {L : List Nat} (h : NL w base v L) (hb : base' ≤ base) : NL w base' v L := by
  refine ⟨h.1, h.2.imp id ?_⟩
  rintro ⟨g, cap, cur, e, hbg, r⟩
  exact ⟨g, cap, cur, e, by omega, r⟩
theorem NL.own {w : World} {base : Nat} {v : Value} {L : List Nat} (h : NL w base v L) {g : Nat} (hg : v.ownBlock = some g) : base ≤ g ∧ g < w.heap.size := World.ownsRow.lt h g hg
theorem Marks.grown {y : Nat} {w w' : World} {v : Value} {base : Nat} {L : List Nat} (hn : NL w base v L) (hg : w.grownBy w' v.ownBlock) : ∀ {ds : List Deferred}, Marks y w ds → Marks y w' ds := by
  intro ds
  induction ds with
  | nil => intro _; trivial
  | cons d ds ih =>
    rintro ⟨⟨r, h1, h2, h3, h4⟩, h5⟩
    refine ⟨⟨r, h1, h2, (hg.block r (Array.getElem?_eq_some_iff.1 h3).1 fun e => ?_).trans h3, h4⟩, ih h5⟩
    obtain ⟨cur, hc, _⟩ := hn.typ e.symm
    rw [h3] at hc; cases hc
theorem NL.keep {w w' : World} {base : Nat} {v : Value} {L : List Nat} (h : NL w base v L) (hb : ∀ g, v.ownBlock = some g → w'.heap[g]? = w.heap[g]?) : NL w' base v L := by
  refine ⟨h.1, h.2.imp id ?_⟩
  rintro ⟨g, cap, cur, rfl, hbg, hg, r⟩
  exact ⟨g, cap, cur, rfl, hbg, (hb g rfl).trans hg, r⟩
theorem Marks.own {y : Nat} {w : World} {v : Value} {base : Nat} {L : List Nat} (hn : NL w base v L) : ∀ {ds : List Deferred}, Marks y w ds → ∀ d, d ∈ ds → ∀ r, d.target = .collected r → v.ownBlock ≠ some r := by
  intro ds
  induction ds with
  | nil => intro _ d hd; cases hd
  | cons d ds ih =>
    rintro ⟨⟨r, h1, h2, h3, h4⟩, h5⟩ d' hd' r' hr' e
    rcases List.mem_cons.1 hd' with rfl | hd'
    · rw [h1] at hr'
      injection hr' with hr'
      subst hr'
      obtain ⟨cur, hc, _⟩ := hn.typ e
      rw [h3] at hc; cases hc
    · exact ih h5 d' hd' r' hr' e
theorem nxtO_at {O : Nat → List (Nat × Nat)} {a k : Nat} {x : Nat × Nat} (hx : (O a)[k]? = some x) (hb : ∀ j y, j < k → (O a)[j]? = some y → lookH (O y.1) (a : Nat) ≠ none) (hn : lookH (O x.1) (a : Nat) = none) : nxtO O a = some x.1 := by
  unfold nxtO
  have : (O a).find? (fun x => (lookH (O x.1) a).isNone) = some x := by
    rw [List.find?_eq_some_iff_getElem]
    obtain ⟨hk, hxe⟩ := List.getElem?_eq_some_iff.1 hx
    refine ⟨by rw [hn]; rfl, k, hk, hxe, fun j hj => ?_⟩
    have := hb j _ hj (List.getElem?_eq_getElem (by omega))
    cases h : lookH (O ((O a)[j]).1) (a : Nat) with
    | none => exact absurd h this
    | some z => simp
  rw [this]; rfl
theorem nxtO_end {O : Nat → List (Nat × Nat)} {a : Nat} (hb : ∀ j y, j < (O a).length → (O a)[j]? = some y → lookH (O y.1) (a : Nat) ≠ none) : nxtO O a = none := by
  unfold nxtO
  rw [Option.map_eq_none_iff, List.find?_eq_none]
  intro y hy
  obtain ⟨j, hj, e⟩ := List.getElem_of_mem hy
  have := hb j y hj (by rw [List.getElem?_eq_getElem hj, e])
  cases h : lookH (O y.1) (a : Nat) with
  | none => exact absurd h this
  | some z => simp
theorem gH_take {H : List Nat} {k : Nat} (hk : k < H.length) : H.take (k + 1) = H.take k ++ [gH H k] := by
  rw [List.take_add_one, gH_at hk]; rfl
set_option maxRecDepth 100000 in
set_option maxHeartbeats 4000000 in
theorem Hull_none (t : Nat) (D : SD) (N : Nat) (X Y : Nat → Int) (O : Nat → List (Nat × Nat)) (w : World) (h : SM w t D N X Y O 0) :
    Calls Try.prog 13 #[ptr t 0] w fun e w' => ∃ v, e = .returned v ∧ NL w' w.heap.size v [] ∧ Below w.heap.size w w' := by
  obtain ⟨c0, c1, c2⟩ := h.c
  have zt := h.blk.lt
  clear h
  refine (callsIn_wide (n := 3)).1 ?_
  refine callsIn_of_wp_marks Try.func13 rfl trivial ?_ rfl
  simp only [Try.ntmps13, List.size_toArray, List.length_cons, List.length_nil, Nat.reduceAdd, Nat.reduceSub, Array.replicate_succ, Array.replicate_zero, List.push_toArray, List.append_toArray, List.nil_append, List.cons_append]
  gi_wp2_with fail
  refine wpIn_scope ?_
  gi_wp2
  exact ⟨.slice none 0 0, by simp [results, Try.results13, go_sem], _, rfl, NL.none, below_a1 _ _⟩
set_option maxRecDepth 100000 in
set_option maxHeartbeats 4000000 in
theorem Hull_is (t : Nat) (D : SD) (N : Nat) (X Y : Nat → Int) (O : Nat → List (Nat × Nat)) (n : Int) (H : List Nat) (hH : HC N O H) (hn : n ≠ 0) (w : World) (h : SM w t D N X Y O n) :
    Calls Try.prog 13 #[ptr t 0] w fun e w' => ∃ v, e = .returned v ∧ NL w' w.heap.size v H ∧ Below w.heap.size w w' := by
  have HS := Lib.hid h
  have HH := Lib.hid hH
  have hpos := hH.pos
  have hlen := hH.len
  obtain ⟨c0, c1, c2⟩ := h.c
  have hsm := h.small
  have hzt := h.blk.lt
  clear h hH
  refine (callsIn_wide (n := 3)).1 ?_
  refine callsIn_of_wp_marks Try.func13 rfl trivial ?_ rfl
  simp only [Try.ntmps13, List.size_toArray, List.length_cons, List.length_nil, Nat.reduceAdd, Nat.reduceSub, Array.replicate_succ, Array.replicate_zero, List.push_toArray, List.append_toArray, List.nil_append, List.cons_append]
  have hn0 : (n == 0) = false := by simpa using hn
  gi_wp2_with fail
  refine wpIn_scope ?_
  gi_wp2_with fail
  refine wpIn_label ?_
  gi_wp2_with fail
  refine nameIn ?_
  intro V hV
  obtain ⟨y0, ey0⟩ : ∃ y, w.heap.size = y := ⟨_, rfl⟩
  obtain ⟨y, ey⟩ : ∃ y, w.heap.size + 1 = y := ⟨_, rfl⟩
  have hy01 : y0 < y := by omega
  have hbV : Below w.heap.size w V := by rw [hV]; exact below_a2 _ _ _
  have K0 : Hid (Blk V y0 #[ptr t 0] 25) := by rw [hV, ← ey0]; exact Lib.hid ((Blk.new w _ _).alloc _)
  have K1 : Hid (Blk V y #[.int .i64 (gH H 0 : Nat)] 3) := by rw [hV, ← ey, HH.out.zero]; exact Lib.hid (Blk.new1 w _ _ _)
  have hVs : V.heap.size = y + 1 := by rw [hV]; simp; omega
  have BV := Lib.hid hbV
  obtain ⟨len, hl⟩ : ∃ l, H.length = l := ⟨_, rfl⟩
  have HLN := Lib.hid hl
  rw [hl] at hpos hlen
  rw [ey, ey0]
  have hz0 : w.heap.size = y0 := ey0
  clear hV hbV hl c0 c1 c2 ey
  refine wpIn_loop_ghost_k (fun gk act wr => ∃ (u5 u6 u7 u8 u9 u10 u11 u12 u13 u14 u15 u16 u17 u18 u19 u20 u21 u22 u23 u24 u25 u26 u27 u28 u29 u30 u31 u32 u33 u34 u35 u36 u37 u38 u39 u40 u41 u42 u43 u44 u45 u46 u47 u48 u49 : Value) (ds : List Deferred) (k : Nat) (ho : Option Addr) (hc a : Nat), (k ≤ len ∧ len - k ≤ gk ∧ (k = len → a = 0) ∧ (0 < k → k < len → a ≠ 0) ∧ Hid (a = gH H (k % len)) ∧ Hid (NL wr (y + 1) (.slice ho k hc) (H.take k)) ∧ Hid (Below w.heap.size w wr) ∧ Hid (Blk wr y0 #[ptr t 0] 25) ∧ Hid (Blk wr y #[.int .i64 (a : Nat)] 3) ∧ y + 1 ≤ wr.heap.size ∧ Hid (Marks y wr ds)) ∧ act = { tmps := #[ptr t 0, ptr y0 0, .slice none 0 0, .slice ho k hc, ptr y 0, u5, u6, u7, u8, u9, u10, u11, u12, u13, u14, u15, u16, u17, u18, u19, u20, u21, u22, u23, u24, u25, u26, u27, u28, u29, u30, u31, u32, u33, u34, u35, u36, u37, u38, u39, u40, u41, u42, u43, u44, u45, u46, u47, u48, u49], defers := ds }) len ⟨_, _, _, _, _, _, _, _, _, _, _, _, _, _, _, _, _, _, _, _, _, _, _, _, _, _, _, _, _, _, _, _, _, _, _, _, _, _, _, _, _, _, _, _, _, [], 0, none, 0, 0, ⟨Nat.zero_le _, Nat.le_refl _, fun _ => rfl, fun h => by omega, Lib.hid (by rw [Nat.zero_mod]; exact HH.out.zero.symm), Lib.hid NL.none, BV, K0, by rw [HH.out.zero] at K1; exact K1, by omega, Lib.hid trivial⟩, rfl⟩ ?_
  intro gk act wr hinv J K hJ hK
  obtain ⟨u5, u6, u7, u8, u9, u10, u11, u12, u13, u14, u15, u16, u17, u18, u19, u20, u21, u22, u23, u24, u25, u26, u27, u28, u29, u30, u31, u32, u33, u34, u35, u36, u37, u38, u39, u40, u41, u42, u43, u44, u45, u46, u47, u48, u49, ds, k, ho, hc, a, ⟨hk, hgk, ha0, han, HA, HNL, HB, HK0, HK1, hyw, HM⟩, rfl⟩ := hinv
  clear K0 K1 BV hVs
  have b0 := HK0.out.cell 0
  have b1 := HK1.out.cell 0
  simp only [List.getElem?_toArray, List.getElem?_cons_zero] at b0 b1
  obtain ⟨c0, c1, c2⟩ := (HS.out.of HB.out).c
  by_cases hlt : k < len
  · have haN : a < N := by rw [HA.out, Nat.mod_eq_of_lt hlt]; exact HH.out.lt k (by rw [HLN.out]; exact hlt)
    have hnx : nxtO O a = some (gH H ((k + 1) % len)) := by
      have := HH.out.nxt k (by rw [HLN.out]; exact hlt)
      rw [HLN.out] at this
      rw [HA.out, Nat.mod_eq_of_lt hlt]; exact this
    have HNX := Lib.hid hnx
    clear hnx
    have hzb := HB.out.size
    rcases Nat.eq_zero_or_pos k with hk0 | hk0
    · subst hk0
      have hq1 : (H.take 0).length < 100000 := by rw [List.length_take]; omega
      have hq2 : y + 1 ≤ (wr.alloc (.cells #[.int .i64 (a : Nat)] 3)).heap.size := by simp; omega
      gi_wp2_with (gi_at_builtin; go_loud (refine wpListIn_append_nl rfl _ _ rfl (y + 1) (.slice ho 0 hc) (H.take 0) a wr.heap.size rfl rfl (Blk.new wr _ _) (HNL.out.of (below_a1 _ _)) hq1 hq2 ?_))
      intro ho2 m2 hc2 V1 hm2 nl2 gr2
      have hva : (wr.alloc (.cells #[.int .i64 (a : Nat)] 3)).heap.size = wr.heap.size + 1 := by simp
      have hoy : ∀ g, (Value.slice ho 0 hc).ownBlock = some g → y + 1 ≤ g := fun g hg => (HNL.out.own hg).1
      have hV1 : ∀ g, g < wr.heap.size → (Value.slice ho 0 hc).ownBlock ≠ some g → V1.heap[g]? = wr.heap[g]? := fun g h1 h2 => (gr2.block g (by omega) (fun e => h2 e.symm)).trans ((below_a1 wr _).block g h1)
      have hss : wr.heap.size + 1 ≤ V1.heap.size := by have := gr2.size; omega
      have B1 : Below w.heap.size w V1 := HB.out.trans ⟨gr2.os, gr2.tape, gr2.output, by omega, fun g hg => hV1 g (by omega) (fun e => by have := hoy g e; omega)⟩
      have k0 : Blk V1 y0 #[ptr t 0] 25 := (hV1 y0 (by omega) (fun e => by have := hoy _ e; omega)).trans HK0.out
      have k1 : Blk V1 y #[.int .i64 (a : Nat)] 3 := (hV1 y (by omega) (fun e => by have := hoy _ e; omega)).trans HK1.out
      have hM1 : Marks y V1 ds := ((HM.out.keep fun r _ h2 => (below_a1 wr (.cells #[.int .i64 (a : Nat)] 3)).block r h2).grown (HNL.out.of (below_a1 wr _)) gr2)
      have hm3 : m2 = 0 + 1 := by first | (rw [hm2, List.length_take]; omega) | (have := HLN.out; omega)
      have nl3 : NL V1 (y + 1) (.slice ho2 (0 + 1) hc2) (H.take (0 + 1)) := by
        rw [gH_take (by rw [HLN.out]; exact hlt), ← hm3]
        have e : gH H 0 = a := by rw [HA.out, Nat.mod_eq_of_lt hlt]
        rw [e]; exact nl2
      subst hm3
      have BB := Lib.hid B1
      have K0 := Lib.hid k0
      have K1 := Lib.hid k1
      have HM1 := Lib.hid hM1
      have NL3 := Lib.hid nl3
      have hy1 : y + 1 ≤ V1.heap.size := by omega
      have d0 := k0.cell 0
      have d1 := k1.cell 0
      simp only [List.getElem?_toArray, List.getElem?_cons_zero] at d0 d1
      clear hva hoy hV1 hss B1 k0 k1 hM1 hm2 nl2 nl3 gr2 HNL HK0 HK1 HB HM b0 b1 c0 c1 c2 hq1 hq2
      gi_wp2_with fail
      refine ⟨trivial, callsIn_wide.2 ?_⟩
      refine (Around_is t a V1).mono ?_
      rintro e V2 ⟨rfl, kcs, kca, hb2⟩
      obtain ⟨cs, ecs⟩ : ∃ b, V1.heap.size = b := ⟨_, rfl⟩
      obtain ⟨ca, eca⟩ : ∃ b, V1.heap.size + 1 = b := ⟨_, rfl⟩
      have o3 : cs < ca := by omega
      have o4 : ca < V2.heap.size := by have := kca.lt; omega
      have o5 : y < cs := by omega
      have SM2 := Lib.hid (HS.out.of (BB.out.trans (hb2.mono BB.out.size)))
      have BB2 := Lib.hid (BB.out.trans (hb2.mono BB.out.size))
      have KS2 := Lib.hid (K0.out.of hb2)
      have KA2 := Lib.hid (K1.out.of hb2)
      have NL2 := Lib.hid (NL3.out.of hb2)
      have HM2 : Hid (Marks y V2 ds) := Lib.hid (HM1.out.keep fun r _ h2 => hb2.block r h2)
      have hy0w : y0 < V2.heap.size := by omega
      rw [eca] at kca ⊢
      rw [ecs] at kcs ⊢
      have KC := Lib.hid (And.intro kcs kca)
      clear kcs kca hb2 BB K0 K1 NL3 HM1 d0 d1 ecs eca
      gi_wp2_with fail
      obtain ⟨z, hz⟩ : ∃ z, gH H ((0 + 1) % len) = z := ⟨_, rfl⟩
      have HZ := Lib.hid hz
      rw [hz] at HNX
      obtain ⟨lr, hlr⟩ : ∃ l, (O a).length = l := ⟨_, rfl⟩
      have HLR := Lib.hid hlr
      have hrow : rowO N O (a : Int) = O a := by unfold rowO; rw [if_pos (by omega)]; rfl
      have hT := Around1_tells cs ca t D N X Y O n a (O a) hrow (V2.heap.size + 2)
      rw [hlr] at hT
      clear hlr hrow hz
      refine wpIn_rangeX (m := 1) (gf := 67) (lb := #[ptr cs 0, ptr ca 0]) (N := lr) (encs := arE (O a)) (Kp := fun W => Blk W cs #[ptr t 0] 25 ∧ Blk W ca #[.int .i64 (a : Nat)] 3 ∧ SM W t D N X Y O n) rfl (fun args w => by go_simp) hT (fun _ => rfl)
        (fun G j W => (∀ g, ¬ G g) ∧ Below V2.heap.size V2 W ∧ ∀ i x, i < j → (O a)[i]? = some x → lookH (O x.1) (a : Nat) ≠ none)
        (fun c j W => c = .exit 1 ∧ Fr V2 W (fun b => b = y) ∧ Blk W y #[.int .i64 (z : Nat)] 3) ?hg ?stable ?xstable ?keeps ?start ?round ?done ?stop
      case hg => rintro G j W ⟨j1, _⟩ g hg; exact absurd hg (j1 g)
      case stable => rintro G j W W' ⟨j1, j2, j3⟩ ⟨hbl, _⟩; exact ⟨j1, j2.trans hbl, j3⟩
      case xstable =>
        rintro c j W W' ⟨j1, j2, j3⟩ hbl
        exact ⟨j1, j2.trans (S' := fun b => V2.heap.size ≤ b) ⟨hbl.os, hbl.tape, hbl.output, hbl.size, fun k _ hk => hbl.block k (by omega)⟩ (fun _ h => .inr h), j3.below hbl (by omega)⟩
      case keeps =>
        rintro G j W ⟨j1, j2, j3⟩
        exact ⟨KC.out.1.of j2, KC.out.2.of j2, SM2.out.of j2⟩
      case start => exact ⟨fun g h => h, Below.refl _ _, fun i x hi => by omega⟩
      case round =>
        rintro l2 D2 j G W2 hj ⟨j1, j2, j3⟩ g1 g2 g3 g4
        obtain ⟨x, hx⟩ : ∃ x, (O a)[j]? = some x := ⟨_, List.getElem?_eq_getElem (show j < (O a).length by rw [HLR.out]; exact hj)⟩
        have hE : arE (O a) j = #[.int .i64 x.1, .int .i64 x.2] := by unfold arE; rw [List.getD_eq_getElem?_getD, hx]; rfl
        rw [hE]
        obtain ⟨xb, xc⟩ := x
        have HX := Lib.hid hx
        have J1 := Lib.hid j1
        have J2 := Lib.hid j2
        have J3 := Lib.hid j3
        clear j1 j2 j3 hx hE hT
        gi_wp2_with fail
        refine ⟨⟨Fix2.of (OutL.refl [] _) g3 g4 (by simp) (by simp), AboveX.refl _ _ _⟩, ?_⟩
        intro W3 hW3
        have hs3 := hW3.size
        have B3 := Lib.hid (J2.out.trans (hW3.below (B := V2.heap.size) (by omega) (by simp; omega)))
        have q0 := (KS2.out.of B3.out).cell 0
        have q1 := (KA2.out.of B3.out).cell 0
        simp only [List.getElem?_toArray, List.getElem?_cons_zero] at q0 q1
        gi_wp2_with fail
        refine ⟨trivial, CallsIn.inRound l2 (callsIn_wide.2 ?_)⟩
        have hxd := (HS.out.dom a haN _ (List.mem_iff_getElem?.2 ⟨j, HX.out⟩)).1
        have hlo : leftO N O (xb : Int) (a : Int) = lookH (O xb) (a : Nat) := by unfold leftO; rw [if_pos (by simp only [] at hxd; omega)]; rfl
        obtain ⟨R, hR⟩ : ∃ R, lookH (O xb) (a : Nat) = R := ⟨_, rfl⟩
        have HR := Lib.hid hR
        refine (Left_is t D N X Y O n xb a W3 (SM2.out.of B3.out) R (hlo.trans hR)).mono ?_
        rintro e W4 ⟨rfl, hb4⟩
        have hs4 := hb4.size
        have B4 := Lib.hid (B3.out.trans (hb4.mono B3.out.size))
        have X34 := Lib.hid hb4
        have k1 := KA2.out.of B4.out
        have r1 := k1.cell 0
        have f1 := k1.free 0
        have l1 := k1.lt
        simp only [List.getElem?_toArray, List.getElem?_cons_zero] at r1
        have K1 := Lib.hid k1
        have hsz3 : V2.heap.size ≤ W3.heap.size := B3.out.size
        clear hxd hlo hR q0 q1 k1 hb4 B3
        cases R with
        | some c =>
          have GG : Hid ((Fix2 l2 D2 W3 W4 ∧ ∃ G' : Nat → Prop, (∀ g, G' g → G g ∨ W3.heap.size ≤ g) ∧ (∀ g, ¬ G' g) ∧ Below V2.heap.size V2 W4 ∧ ∀ i x, i < j + 1 → (O a)[i]? = some x → lookH (O x.1) (a : Nat) ≠ none) ∧ AboveX (V2.heap.size + 2) G W3 W4) := by
            refine Lib.hid ⟨⟨⟨X34.out.block l2 (by omega), X34.out.block D2 (by omega)⟩, fun _ => False, fun g h => h.elim, fun g h => h, B4.out, fun i x hi hx => ?_⟩, ⟨hs4, fun k _ hk _ => X34.out.block k hk⟩⟩
            rcases Nat.lt_or_ge i j with h | h
            · exact J3.out i x h hx
            · have : i = j := by omega
              subst this
              rw [HX.out] at hx
              injection hx with hx
              subst hx
              intro e
              have := HR.out
              rw [e] at this; cases this
          clear r1 f1 l1 hs4
          gi_wp2
          exact GG.out
        | none =>
          have hzx : z = xb := by
            have := nxtO_at HX.out J3.out HR.out
            rw [HNX.out] at this
            injection this
          have GG : Hid ((Fix2 l2 D2 W3 (W4.setCell ⟨y, 0, none⟩ (.int .i64 (xb : Nat))) ∧ Fr V2 (W4.setCell ⟨y, 0, none⟩ (.int .i64 (xb : Nat))) (fun b => b = y) ∧ Blk (W4.setCell ⟨y, 0, none⟩ (.int .i64 (xb : Nat))) y #[.int .i64 (z : Nat)] 3) ∧ AboveX (V2.heap.size + 2) G W3 (W4.setCell ⟨y, 0, none⟩ (.int .i64 (xb : Nat)))) := by
            have hst : ∀ g, g ≠ y → (W4.setCell ⟨y, 0, none⟩ (.int .i64 (xb : Nat))).heap[g]? = W4.heap[g]? := fun g h => Below.heap_setCell W4 ⟨y, 0, none⟩ (.int .i64 (xb : Nat)) g h
            have hsf : (W4.setCell ⟨y, 0, none⟩ (.int .i64 (xb : Nat))).heap.size = W4.heap.size := by simp [World.setCell]
            refine Lib.hid ⟨⟨⟨(hst l2 (by omega)).trans (X34.out.block l2 (by omega)), (hst D2 (by omega)).trans (X34.out.block D2 (by omega))⟩, ⟨B4.out.os, B4.out.tape, B4.out.output, by rw [hsf]; exact B4.out.size, fun k hk hn => (hst k hn).trans (B4.out.block k hk)⟩, ?_⟩, ⟨by rw [hsf]; exact hs4, fun k h1 hk _ => (hst k (by omega)).trans (X34.out.block k hk)⟩⟩
            rw [hzx]; exact K1.out.put 0 (.int .i64 (xb : Nat))
          clear hs4 hzx
          gi_wp2
          exact ⟨⟨GG.out.1.1, rfl, GG.out.1.2⟩, GG.out.2⟩
      case done =>
        rintro Dd G V5 g1 ⟨j1, j2, j3⟩ hD
        have := nxtO_end (a := a) (O := O) (fun i y hi => j3 i y (by rw [← HLR.out]; exact hi))
        rw [HNX.out] at this
        cases this
      case stop =>
        rintro Dd c k' V5 g1 ⟨rfl, j2, j3⟩ hD
        have hst : Hid (0 + 1 ≤ len ∧ (0 + 1 = len → z = 0) ∧ (0 < 0 + 1 → 0 + 1 < len → z ≠ 0) ∧ z = gH H ((0 + 1) % len)) := by
          refine Lib.hid ⟨hlt, fun h => ?_, fun _ h => ?_, HZ.out.symm⟩
          · rw [← HZ.out, h, Nat.mod_self]; exact HH.out.zero
          · rw [← HZ.out, Nat.mod_eq_of_lt h]; exact HH.out.nz _ (by omega) (by rw [HLN.out]; exact h)
        have F1 := Lib.hid (BB2.out.trans (j2.below (B := w.heap.size) BB2.out.size (fun k h => by omega)))
        have F2 := Lib.hid (j2.blk KS2.out (by omega))
        have F3 := Lib.hid j3
        have F4 : Hid (NL V5 (y + 1) (.slice ho2 (0 + 1) hc2) (H.take (0 + 1))) := Lib.hid (NL2.out.keep fun g hg => j2.block g (NL2.out.own hg).2 (by have := (NL2.out.own hg).1; omega))
        have F5 : Hid (Marks y V5 ({ target := .collected Dd, args := #[] } :: ds)) := Lib.hid ⟨⟨Dd, rfl, by omega, hD, fun d hd r hr => by have := HM2.out.lt d hd r hr; omega⟩, HM2.out.keep fun r h1 h2 => j2.block r h2 (by omega)⟩
        have hs5 := j2.size
        have hy5 : y + 1 ≤ V5.heap.size := by omega
        have hms : len - (0 + 1) < gk := by omega
        clear j2 j3 hD hT BB2 KS2 KA2 NL2 HM2 KC
        gi_wp2_with fail
        exact ⟨len - (0 + 1), hms, hJ _ _ _ ⟨_, _, _, _, _, _, _, _, _, _, _, _, _, _, _, _, _, _, _, _, _, _, _, _, _, _, _, _, _, _, _, _, _, _, _, _, _, _, _, _, _, _, _, _, _, _ , 0 + 1, ho2, hc2, z, ⟨hst.out.1, Nat.le_refl _, hst.out.2.1, hst.out.2.2.1, Lib.hid hst.out.2.2.2, F4, F1, F2, F3, hy5, F5⟩, rfl⟩⟩
    · have hk1 : ¬ k = 0 := by omega
      have hk2 : ¬ a = 0 := han hk0 hlt
      have hk4 : ((k : Int) == 0) = false := by simp; omega
      have hk5 : ((a : Int) != 0) = true := by simp; omega
      have hk3 : (k : Int) < (N : Int) := by omega
      clear hk0
      have hq1 : (H.take k).length < 100000 := by rw [List.length_take]; omega
      have hq2 : y + 1 ≤ (wr.alloc (.cells #[.int .i64 (a : Nat)] 3)).heap.size := by simp; omega
      gi_wp2_with (gi_at_builtin; go_loud (refine wpListIn_append_nl rfl _ _ rfl (y + 1) (.slice ho k hc) (H.take k) a wr.heap.size rfl rfl (Blk.new wr _ _) (HNL.out.of (below_a1 _ _)) hq1 hq2 ?_))
      intro ho2 m2 hc2 V1 hm2 nl2 gr2
      have hva : (wr.alloc (.cells #[.int .i64 (a : Nat)] 3)).heap.size = wr.heap.size + 1 := by simp
      have hoy : ∀ g, (Value.slice ho k hc).ownBlock = some g → y + 1 ≤ g := fun g hg => (HNL.out.own hg).1
      have hV1 : ∀ g, g < wr.heap.size → (Value.slice ho k hc).ownBlock ≠ some g → V1.heap[g]? = wr.heap[g]? := fun g h1 h2 => (gr2.block g (by omega) (fun e => h2 e.symm)).trans ((below_a1 wr _).block g h1)
      have hss : wr.heap.size + 1 ≤ V1.heap.size := by have := gr2.size; omega
      have B1 : Below w.heap.size w V1 := HB.out.trans ⟨gr2.os, gr2.tape, gr2.output, by omega, fun g hg => hV1 g (by omega) (fun e => by have := hoy g e; omega)⟩
      have k0 : Blk V1 y0 #[ptr t 0] 25 := (hV1 y0 (by omega) (fun e => by have := hoy _ e; omega)).trans HK0.out
      have k1 : Blk V1 y #[.int .i64 (a : Nat)] 3 := (hV1 y (by omega) (fun e => by have := hoy _ e; omega)).trans HK1.out
      have hM1 : Marks y V1 ds := ((HM.out.keep fun r _ h2 => (below_a1 wr (.cells #[.int .i64 (a : Nat)] 3)).block r h2).grown (HNL.out.of (below_a1 wr _)) gr2)
      have hm3 : m2 = k + 1 := by first | (rw [hm2, List.length_take]; omega) | (have := HLN.out; omega)
      have nl3 : NL V1 (y + 1) (.slice ho2 (k + 1) hc2) (H.take (k + 1)) := by
        rw [gH_take (by rw [HLN.out]; exact hlt), ← hm3]
        have e : gH H k = a := by rw [HA.out, Nat.mod_eq_of_lt hlt]
        rw [e]; exact nl2
      subst hm3
      have BB := Lib.hid B1
      have K0 := Lib.hid k0
      have K1 := Lib.hid k1
      have HM1 := Lib.hid hM1
      have NL3 := Lib.hid nl3
      have hy1 : y + 1 ≤ V1.heap.size := by omega
      have d0 := k0.cell 0
      have d1 := k1.cell 0
      simp only [List.getElem?_toArray, List.getElem?_cons_zero] at d0 d1
      clear hva hoy hV1 hss B1 k0 k1 hM1 hm2 nl2 nl3 gr2 HNL HK0 HK1 HB HM b0 b1 c0 c1 c2 hq1 hq2
      gi_wp2_with fail
      refine ⟨trivial, callsIn_wide.2 ?_⟩
      refine (Around_is t a V1).mono ?_
      rintro e V2 ⟨rfl, kcs, kca, hb2⟩
      obtain ⟨cs, ecs⟩ : ∃ b, V1.heap.size = b := ⟨_, rfl⟩
      obtain ⟨ca, eca⟩ : ∃ b, V1.heap.size + 1 = b := ⟨_, rfl⟩
      have o3 : cs < ca := by omega
      have o4 : ca < V2.heap.size := by have := kca.lt; omega
      have o5 : y < cs := by omega
      have SM2 := Lib.hid (HS.out.of (BB.out.trans (hb2.mono BB.out.size)))
      have BB2 := Lib.hid (BB.out.trans (hb2.mono BB.out.size))
      have KS2 := Lib.hid (K0.out.of hb2)
      have KA2 := Lib.hid (K1.out.of hb2)
      have NL2 := Lib.hid (NL3.out.of hb2)
      have HM2 : Hid (Marks y V2 ds) := Lib.hid (HM1.out.keep fun r _ h2 => hb2.block r h2)
      have hy0w : y0 < V2.heap.size := by omega
      rw [eca] at kca ⊢
      rw [ecs] at kcs ⊢
      have KC := Lib.hid (And.intro kcs kca)
      clear kcs kca hb2 BB K0 K1 NL3 HM1 d0 d1 ecs eca
      gi_wp2_with fail
      obtain ⟨z, hz⟩ : ∃ z, gH H ((k + 1) % len) = z := ⟨_, rfl⟩
      have HZ := Lib.hid hz
      rw [hz] at HNX
      obtain ⟨lr, hlr⟩ : ∃ l, (O a).length = l := ⟨_, rfl⟩
      have HLR := Lib.hid hlr
      have hrow : rowO N O (a : Int) = O a := by unfold rowO; rw [if_pos (by omega)]; rfl
      have hT := Around1_tells cs ca t D N X Y O n a (O a) hrow (V2.heap.size + 2)
      rw [hlr] at hT
      clear hlr hrow hz
      refine wpIn_rangeX (m := 1) (gf := 67) (lb := #[ptr cs 0, ptr ca 0]) (N := lr) (encs := arE (O a)) (Kp := fun W => Blk W cs #[ptr t 0] 25 ∧ Blk W ca #[.int .i64 (a : Nat)] 3 ∧ SM W t D N X Y O n) rfl (fun args w => by go_simp) hT (fun _ => rfl)
        (fun G j W => (∀ g, ¬ G g) ∧ Below V2.heap.size V2 W ∧ ∀ i x, i < j → (O a)[i]? = some x → lookH (O x.1) (a : Nat) ≠ none)
        (fun c j W => c = .exit 1 ∧ Fr V2 W (fun b => b = y) ∧ Blk W y #[.int .i64 (z : Nat)] 3) ?hg ?stable ?xstable ?keeps ?start ?round ?done ?stop
      case hg => rintro G j W ⟨j1, _⟩ g hg; exact absurd hg (j1 g)
      case stable => rintro G j W W' ⟨j1, j2, j3⟩ ⟨hbl, _⟩; exact ⟨j1, j2.trans hbl, j3⟩
      case xstable =>
        rintro c j W W' ⟨j1, j2, j3⟩ hbl
        exact ⟨j1, j2.trans (S' := fun b => V2.heap.size ≤ b) ⟨hbl.os, hbl.tape, hbl.output, hbl.size, fun k _ hk => hbl.block k (by omega)⟩ (fun _ h => .inr h), j3.below hbl (by omega)⟩
      case keeps =>
        rintro G j W ⟨j1, j2, j3⟩
        exact ⟨KC.out.1.of j2, KC.out.2.of j2, SM2.out.of j2⟩
      case start => exact ⟨fun g h => h, Below.refl _ _, fun i x hi => by omega⟩
      case round =>
        rintro l2 D2 j G W2 hj ⟨j1, j2, j3⟩ g1 g2 g3 g4
        obtain ⟨x, hx⟩ : ∃ x, (O a)[j]? = some x := ⟨_, List.getElem?_eq_getElem (show j < (O a).length by rw [HLR.out]; exact hj)⟩
        have hE : arE (O a) j = #[.int .i64 x.1, .int .i64 x.2] := by unfold arE; rw [List.getD_eq_getElem?_getD, hx]; rfl
        rw [hE]
        obtain ⟨xb, xc⟩ := x
        have HX := Lib.hid hx
        have J1 := Lib.hid j1
        have J2 := Lib.hid j2
        have J3 := Lib.hid j3
        clear j1 j2 j3 hx hE hT
        gi_wp2_with fail
        refine ⟨⟨Fix2.of (OutL.refl [] _) g3 g4 (by simp) (by simp), AboveX.refl _ _ _⟩, ?_⟩
        intro W3 hW3
        have hs3 := hW3.size
        have B3 := Lib.hid (J2.out.trans (hW3.below (B := V2.heap.size) (by omega) (by simp; omega)))
        have q0 := (KS2.out.of B3.out).cell 0
        have q1 := (KA2.out.of B3.out).cell 0
        simp only [List.getElem?_toArray, List.getElem?_cons_zero] at q0 q1
        gi_wp2_with fail
        refine ⟨trivial, CallsIn.inRound l2 (callsIn_wide.2 ?_)⟩
        have hxd := (HS.out.dom a haN _ (List.mem_iff_getElem?.2 ⟨j, HX.out⟩)).1
        have hlo : leftO N O (xb : Int) (a : Int) = lookH (O xb) (a : Nat) := by unfold leftO; rw [if_pos (by simp only [] at hxd; omega)]; rfl
        obtain ⟨R, hR⟩ : ∃ R, lookH (O xb) (a : Nat) = R := ⟨_, rfl⟩
        have HR := Lib.hid hR
        refine (Left_is t D N X Y O n xb a W3 (SM2.out.of B3.out) R (hlo.trans hR)).mono ?_
        rintro e W4 ⟨rfl, hb4⟩
        have hs4 := hb4.size
        have B4 := Lib.hid (B3.out.trans (hb4.mono B3.out.size))
        have X34 := Lib.hid hb4
        have k1 := KA2.out.of B4.out
        have r1 := k1.cell 0
        have f1 := k1.free 0
        have l1 := k1.lt
        simp only [List.getElem?_toArray, List.getElem?_cons_zero] at r1
        have K1 := Lib.hid k1
        have hsz3 : V2.heap.size ≤ W3.heap.size := B3.out.size
        clear hxd hlo hR q0 q1 k1 hb4 B3
        cases R with
        | some c =>
          have GG : Hid ((Fix2 l2 D2 W3 W4 ∧ ∃ G' : Nat → Prop, (∀ g, G' g → G g ∨ W3.heap.size ≤ g) ∧ (∀ g, ¬ G' g) ∧ Below V2.heap.size V2 W4 ∧ ∀ i x, i < j + 1 → (O a)[i]? = some x → lookH (O x.1) (a : Nat) ≠ none) ∧ AboveX (V2.heap.size + 2) G W3 W4) := by
            refine Lib.hid ⟨⟨⟨X34.out.block l2 (by omega), X34.out.block D2 (by omega)⟩, fun _ => False, fun g h => h.elim, fun g h => h, B4.out, fun i x hi hx => ?_⟩, ⟨hs4, fun k _ hk _ => X34.out.block k hk⟩⟩
            rcases Nat.lt_or_ge i j with h | h
            · exact J3.out i x h hx
            · have : i = j := by omega
              subst this
              rw [HX.out] at hx
              injection hx with hx
              subst hx
              intro e
              have := HR.out
              rw [e] at this; cases this
          clear r1 f1 l1 hs4
          gi_wp2
          exact GG.out
        | none =>
          have hzx : z = xb := by
            have := nxtO_at HX.out J3.out HR.out
            rw [HNX.out] at this
            injection this
          have GG : Hid ((Fix2 l2 D2 W3 (W4.setCell ⟨y, 0, none⟩ (.int .i64 (xb : Nat))) ∧ Fr V2 (W4.setCell ⟨y, 0, none⟩ (.int .i64 (xb : Nat))) (fun b => b = y) ∧ Blk (W4.setCell ⟨y, 0, none⟩ (.int .i64 (xb : Nat))) y #[.int .i64 (z : Nat)] 3) ∧ AboveX (V2.heap.size + 2) G W3 (W4.setCell ⟨y, 0, none⟩ (.int .i64 (xb : Nat)))) := by
            have hst : ∀ g, g ≠ y → (W4.setCell ⟨y, 0, none⟩ (.int .i64 (xb : Nat))).heap[g]? = W4.heap[g]? := fun g h => Below.heap_setCell W4 ⟨y, 0, none⟩ (.int .i64 (xb : Nat)) g h
            have hsf : (W4.setCell ⟨y, 0, none⟩ (.int .i64 (xb : Nat))).heap.size = W4.heap.size := by simp [World.setCell]
            refine Lib.hid ⟨⟨⟨(hst l2 (by omega)).trans (X34.out.block l2 (by omega)), (hst D2 (by omega)).trans (X34.out.block D2 (by omega))⟩, ⟨B4.out.os, B4.out.tape, B4.out.output, by rw [hsf]; exact B4.out.size, fun k hk hn => (hst k hn).trans (B4.out.block k hk)⟩, ?_⟩, ⟨by rw [hsf]; exact hs4, fun k h1 hk _ => (hst k (by omega)).trans (X34.out.block k hk)⟩⟩
            rw [hzx]; exact K1.out.put 0 (.int .i64 (xb : Nat))
          clear hs4 hzx
          gi_wp2
          exact ⟨⟨GG.out.1.1, rfl, GG.out.1.2⟩, GG.out.2⟩
      case done =>
        rintro Dd G V5 g1 ⟨j1, j2, j3⟩ hD
        have := nxtO_end (a := a) (O := O) (fun i y hi => j3 i y (by rw [← HLR.out]; exact hi))
        rw [HNX.out] at this
        cases this
      case stop =>
        rintro Dd c k' V5 g1 ⟨rfl, j2, j3⟩ hD
        have hst : Hid (k + 1 ≤ len ∧ (k + 1 = len → z = 0) ∧ (0 < k + 1 → k + 1 < len → z ≠ 0) ∧ z = gH H ((k + 1) % len)) := by
          refine Lib.hid ⟨hlt, fun h => ?_, fun _ h => ?_, HZ.out.symm⟩
          · rw [← HZ.out, h, Nat.mod_self]; exact HH.out.zero
          · rw [← HZ.out, Nat.mod_eq_of_lt h]; exact HH.out.nz _ (by omega) (by rw [HLN.out]; exact h)
        have F1 := Lib.hid (BB2.out.trans (j2.below (B := w.heap.size) BB2.out.size (fun k h => by omega)))
        have F2 := Lib.hid (j2.blk KS2.out (by omega))
        have F3 := Lib.hid j3
        have F4 : Hid (NL V5 (y + 1) (.slice ho2 (k + 1) hc2) (H.take (k + 1))) := Lib.hid (NL2.out.keep fun g hg => j2.block g (NL2.out.own hg).2 (by have := (NL2.out.own hg).1; omega))
        have F5 : Hid (Marks y V5 ({ target := .collected Dd, args := #[] } :: ds)) := Lib.hid ⟨⟨Dd, rfl, by omega, hD, fun d hd r hr => by have := HM2.out.lt d hd r hr; omega⟩, HM2.out.keep fun r h1 h2 => j2.block r h2 (by omega)⟩
        have hs5 := j2.size
        have hy5 : y + 1 ≤ V5.heap.size := by omega
        have hms : len - (k + 1) < gk := by omega
        clear j2 j3 hD hT BB2 KS2 KA2 NL2 HM2 KC
        gi_wp2_with fail
        exact ⟨len - (k + 1), hms, hJ _ _ _ ⟨_, _, _, _, _, _, _, _, _, _, _, _, _, _, _, _, _, _, _, _, _, _, _, _, _, _, _, _, _, _, _, _, _, _, _, _, _, _, _, _, _, _, _, _, _, _ , k + 1, ho2, hc2, z, ⟨hst.out.1, Nat.le_refl _, hst.out.2.1, hst.out.2.2.1, Lib.hid hst.out.2.2.2, F4, F1, F2, F3, hy5, F5⟩, rfl⟩⟩
  · have hke : k = len := by omega
    have haz := ha0 hke
    subst haz
    have hk1 : ¬ k = 0 := by omega
    have hk4 : ((k : Int) == 0) = false := by simp; omega
    have HF := Lib.hid (show NL wr (y + 1) (.slice ho k hc) H by
      have := HNL.out
      rw [List.take_of_length_le (by rw [HLN.out]; omega)] at this
      exact this)
    have hbs := HB.out.size
    clear HNL HK0 HK1 hke HA
    gi_wp2
    refine leaves_marks (B := w.heap.size) (by omega) (fun g => (Value.slice ho k hc).ownBlock = some g) ds wr (by omega) HM.out (fun d hd r hr => Marks.own HF.out HM.out d hd r hr) fun w' hb => ?_
    simp only [LeavesInM, LeavesIn]
    refine ⟨.slice ho k hc, by simp [results, Try.results13, go_sem], _, rfl, ?_, HB.out.trans hb.1⟩
    exact (HF.out.keep fun g hg => hb.2 g hg (HF.out.own hg).2).low2 (by omega)
end Go.Proofs.Ytdlpfiiakmhnlaa

namespace Go.Proofs.Ytdlpfiiakmhnlaa
open Go.RowKit

def fP (X Y : Nat → Int) (n : Nat) : List Value := (List.range n).flatMap fun i => [.int .i64 (X i), .int .i64 (Y i)]
theorem fP_succ (X Y : Nat → Int) (n : Nat) : fP X Y (n + 1) = fP X Y n ++ [.int .i64 (X n), .int .i64 (Y n)] := by unfold fP; rw [List.range_succ, List.flatMap_append]; rfl
theorem info_rp : (Try.prog.info? 51).map (fun i => (i.zero, i.size, i.bytes)) = some (some (.agg #[.int .i64 0, .int .i64 0]), 2, 16) := by kernel_rfl
set_option maxRecDepth 100000 in
set_option maxHeartbeats 4000000 in
theorem refs_is (ao : Option Addr) (N cap : Nat) (X Y : Nat → Int) (w : World) (h : Pts w ao N cap X Y) (hN : N ≤ 4096) :
    Calls Try.prog 15 #[.slice ao N cap] w fun e w' => ∃ v, e = .returned v ∧ w'.ownsRow w.heap.size 51 2 v N (fP X Y N) ∧ Below w.heap.size w w' := by
  have hcl := h.capl
  have hcb := h.capb
  have HO := Lib.hid h
  clear h
  obtain ⟨i0, hi, hz0, hz1, hz2⟩ := info_parts info_rp
  go_enter Try.func15, Try.ntmps15
  go_wp2_with fail
  go_loopg [3, 8] N (fun gk s3 s8 wr => ∃ k : Nat, s8 = .int .i64 k ∧ k ≤ N ∧ N - k ≤ gk ∧ Hid (wr.ownsRow w.heap.size 51 2 s3 k (fP X Y k)) ∧ Hid (Below w.heap.size w wr))
  case atStart => exact ⟨0, rfl, Nat.zero_le _, by omega, Lib.hid ⟨rfl, .inl ⟨rfl, rfl⟩⟩, Lib.hid (Below.refl _ _)⟩
  case round =>
    obtain ⟨k, rfl, hk, hgk, HR, HW⟩ := hrel
    by_cases hlt : k < N
    · obtain ⟨pa, rfl, p0, p1⟩ := HO.out.at HW.out hlt
      have HX := Lib.hid (fP_succ X Y k)
      obtain ⟨px, hpx⟩ : ∃ x, X k = x := ⟨_, rfl⟩
      obtain ⟨py, hpy⟩ : ∃ x, Y k = x := ⟨_, rfl⟩
      rw [hpx] at p0 HX
      rw [hpy] at p1 HX
      have hz := HW.out.size
      obtain ⟨v, hv⟩ : ∃ v, v = u3 := ⟨_, rfl⟩
      have hown := own_belowT (own_belowT HR.out (below_a1 wr (.cells #[.int .i64 px, .int .i64 py] 41))) (below_a1 _ (.cells #[.int .i64 px, .int .i64 py] 51))
      clear hpx hpy
      go_wp2_with (at_builtin; go_loud (refine wpList_append_own _ rfl _ _ 32 rfl w.heap.size 51 i0 (.agg #[.int .i64 0, .int .i64 0]) 2 16 Try.underlying32 hi hz0 hz1 hz2 rfl (by decide) u3 k (fP X Y k) rfl hown ⟨wr.heap.size + 1, 0, none⟩ 1 1 [.int .i64 px, .int .i64 py] rfl rfl ?c1 ?c2 ?c3 ?c4 ?c5 ?_))
      case c1 =>
        intro j u hj
        match j, hj with
        | 0, hj => simp at hj; subst hj; exact (Blk.new1 wr _ _ _).cell 0
        | 1, hj => simp at hj; subst hj; exact (Blk.new1 wr _ _ _).cell 1
        | j + 2, hj => simp at hj
      case c2 => intro u hu; simp at hu; rcases hu with rfl | rfl <;> rfl
      case c3 => unfold maxLen; omega
      case c4 => omega
      case c5 => simp; omega
      intro v1 w1 own1 gr1 _
      rw [← HX.out] at own1
      have OW := Lib.hid own1
      have hb1 : Below w.heap.size wr w1 := ((below_a2 wr _ _).mono hz).grown gr1 (by simp; omega) fun g hg => (World.ownsRow.lt hown g hg).1
      have HW2 := Lib.hid (HW.out.trans hb1)
      clear own1 gr1 hb1 hown p0 p1 HR HW
      go_wp2_with fail
      go_roundg (N - (k + 1))
      case measure => omega
      case rel => exact ⟨k + 1, by norm_cast, by omega, Nat.le_refl _, OW, HW2⟩
    · go_wp2
      simp [bodyPost, results, Try.results15, go_sem]
      have e : k = N := by omega
      rw [e] at HR
      exact ⟨HR.out, HW.out⟩
end Go.Proofs.Ytdlpfiiakmhnlaa

namespace Go.Proofs.Ytdlpfiiakmhnlaa
open Go.RowKit

theorem rWy_is (ax ay bx b_y cx cy r : Int) (h : way ax ay bx b_y cx cy = r) (w : World) :
    Calls Try.prog 46 #[pI ax ay, pI bx b_y, pI cx cy] w fun e w' => e = .returned (.int .i64 r) ∧ Below w.heap.size w w' := h ▸ Way_any ax ay bx b_y cx cy w
theorem rOnB_is (ax ay bx b_y cx cy : Int) (r : Bool) (h : onB ax ay bx b_y cx cy = r) (w : World) :
    Calls Try.prog 47 #[pI ax ay, pI bx b_y, pI cx cy] w fun e w' => e = .returned (.bool r) ∧ Below w.heap.size w w' := h ▸ rOn_any ax ay bx b_y cx cy w
/-- reference points as points -/
theorem Pts.ofRow {w : World} {base n : Nat} {v : Value} {X Y : Nat → Int} (h : w.ownsRow base 51 2 v n (fP X Y n)) : ∃ ao cap, v = .slice ao n cap ∧ Pts w ao n cap X Y := by
  rcases h.2 with ⟨rfl, hn⟩ | ⟨g, cap, cur, rfl, hb, hg, h1, h2, h3, h4⟩
  · exact ⟨none, 0, by rw [hn], fun h0 => by omega, by omega, by omega⟩
  · refine ⟨_, cap, rfl, fun h0 => ⟨⟨g, 0, none⟩, rfl, (Array.getElem?_eq_some_iff.1 hg).1, fun i hi => ?_⟩, h1, by unfold maxLen at h2; omega⟩
    have hf : ∀ m i, i < m → (fP X Y m)[i * 2]? = some (.int .i64 (X i)) ∧ (fP X Y m)[i * 2 + 1]? = some (.int .i64 (Y i)) := by
      intro m
      induction m with
      | zero => intro i hi; omega
      | succ m ih =>
        intro i hi
        have hl : (fP X Y m).length = m * 2 := by
          clear ih hi h3 h4
          induction m with
          | zero => rfl
          | succ m ih => rw [fP_succ, List.length_append, ih]; show m * 2 + 2 = _; omega
        rw [fP_succ]
        rcases Nat.lt_or_ge i m with h5 | h5
        · rw [List.getElem?_append_left (by omega), List.getElem?_append_left (by omega)]
          exact ih i h5
        · obtain rfl : i = m := by omega
          rw [List.getElem?_append_right (by omega), List.getElem?_append_right (by omega), hl, Nat.sub_self, show i * 2 + 1 - i * 2 = 1 by omega]
          exact ⟨rfl, rfl⟩
    obtain ⟨f0, f1⟩ := hf n i hi
    have c : ∀ k u, k < n * 2 → (fP X Y n)[k]? = some u → w.cell? ⟨g, k, none⟩ = some u := fun k u hk hu => by
      rw [cell_row hg, ← Array.getElem?_toList]
      rw [← h4, List.getElem?_take_of_lt hk] at hu
      exact hu
    have e : (⟨g, 0, none⟩ : Addr).add (i * 2) = ⟨g, i * 2, none⟩ := by unfold Addr.add; split <;> simp_all
    rw [e]
    exact ⟨c (i * 2) _ (by omega) f0, c (i * 2 + 1) _ (by omega) f1⟩
set_option maxRecDepth 100000 in
set_option maxHeartbeats 2000000 in
theorem Flat_is (ao : Option Addr) (N cap : Nat) (X Y : Nat → Int) (w : World) (h : Pts w ao N cap X Y) (hN : N ≤ 4096) :
    Calls Try.prog 14 #[.slice ao N cap] w fun e w' => ∃ b, e = .returned (.bool b) ∧ (b = true ↔ ∀ i, 2 ≤ i → i < N → wy X Y 0 1 i = 0) ∧ Below w.heap.size w w' := by
  have hcl := h.capl
  have hcb := h.capb
  have HO := Lib.hid h
  clear h
  go_enter Try.func14, Try.ntmps14
  go_wp2_with fail
  go_loopg [3] N (fun gk s3 wr => ∃ k : Nat, s3 = .int .i64 k ∧ 2 ≤ k ∧ N - k ≤ gk ∧ Hid (∀ i, 2 ≤ i → i < k → i < N → wy X Y 0 1 i = 0) ∧ Below w.heap.size w wr)
  case atStart => exact ⟨2, rfl, Nat.le_refl _, by omega, Lib.hid (fun i h1 h2 => by omega), Below.refl _ _⟩
  case round =>
    obtain ⟨k, rfl, h2, hg, HL, hb⟩ := hrel
    by_cases hlt : k < N
    · obtain ⟨pa, rfl, hpt⟩ := (HO.out.of hb).atP (by omega)
      have qa := hpt 0 (by omega)
      have qb := hpt 1 (by omega)
      have qc := hpt k hlt
      obtain ⟨ax, hax⟩ : ∃ x, X 0 = x := ⟨_, rfl⟩
      obtain ⟨ay, hay⟩ : ∃ x, Y 0 = x := ⟨_, rfl⟩
      obtain ⟨bx, hbx⟩ : ∃ x, X 1 = x := ⟨_, rfl⟩
      obtain ⟨b_y, hby⟩ : ∃ x, Y 1 = x := ⟨_, rfl⟩
      obtain ⟨cx, hcx⟩ : ∃ x, X k = x := ⟨_, rfl⟩
      obtain ⟨cy, hcy⟩ : ∃ x, Y k = x := ⟨_, rfl⟩
      obtain ⟨r, hr⟩ : ∃ r, wy X Y 0 1 k = r := ⟨_, rfl⟩
      have hr3 : r = -1 ∨ r = 0 ∨ r = 1 := by rw [← hr]; exact wy_cases _ _ _ _ _
      have hw : way ax ay bx b_y cx cy = r := by rw [← hax, ← hay, ← hbx, ← hby, ← hcx, ← hcy]; exact hr
      rw [hax, hay] at qa
      rw [hbx, hby] at qb
      rw [hcx, hcy] at qc
      have e0 : pa.add (0 * 2) = pa := by unfold Addr.add; simp
      simp only [e0] at qa
      have e1 : pa.add (1 * 2) = { block := pa.block, off := pa.off + 2 } := rfl
      simp only [e1] at qb
      clear e0 e1
      have qa0 := fun u => (qa u).1
      have qa1 := fun u => (qa u).2
      have qb0 := fun u => (qb u).1
      have qb1 := fun u => (qb u).2
      have qc0 := fun u => (qc u).1
      have qc1 := fun u => (qc u).2
      have HW := Lib.hid hw
      have HR := Lib.hid hr
      clear hax hay hbx hby hcx hcy hpt qa qb qc hr hw
      have hbk := hb
      go_wp2_with fail
      refine wp_region_up wr.heap.size 10 [(true, 0), (true, 1), (true, 2), (true, 3), (true, 4), (true, 5), (true, 6), (true, 7), (true, 8), (true, 9)] (by kernel_rfl) (by kernel_rfl) (fun _ _ d _ _ h => by cases d <;> exact h) ?_
      have hb : Below wr.heap.size wr wr.drew := (Below.refl _ _).drew
      iterate 10
        refine wpS_takeL rfl rfl ?_
        go_big_quiet_step (rfl)
        refine wpQuiet_nil ?_
      refine wpS_nil ?_
      simp only [List.drop_succ_cons, List.drop_zero]
      go_wp2_with fail
      refine (rWy_is ax ay bx b_y cx cy r HW.out _).mono ?_
      rintro e w2 ⟨rfl, hn⟩
      have hb2 := (hbk.trans (hb.mono hbk.size)).trans (hn.mono (hbk.trans (hb.mono hbk.size)).size)
      clear hn hb hbk qa0 qa1 qb0 qb1 qc0 qc1
      rcases (show r = 0 ∨ (r = -1 ∨ r = 1) by omega) with rfl | hr1
      · go_wp2_with fail
        go_roundg (N - (k + 1))
        case measure => omega
        case rel =>
          refine ⟨k + 1, by norm_cast, by omega, Nat.le_refl _, Lib.hid (fun i h1 h3 h4 => ?_), hb2⟩
          by_cases e : i = k
          · subst e; exact HR.out
          · exact HL.out i h1 (by omega) h4
      · have hne : (r == 0) = false := by rcases hr1 with rfl | rfl <;> decide
        go_wp2
        simp [bodyPost, results, Try.results14, go_sem]
        refine ⟨⟨k, h2, hlt, ?_⟩, hb2⟩
        rw [HR.out]
        omega
    · go_wp2
      simp [bodyPost, results, Try.results14, go_sem]
      exact ⟨fun i h1 h3 => HL.out i h1 (by omega) h3, hb⟩
end Go.Proofs.Ytdlpfiiakmhnlaa

namespace Go.Proofs.Ytdlpfiiakmhnlaa
open Go.RowKit

/-- what one point says to a way -/
def goodR (X Y : Nat → Int) (a i k : Nat) : Prop := ¬ wy X Y a i k < 0 ∧ (wy X Y a i k = 0 → k ≠ a → k ≠ i → onB (X a) (Y a) (X i) (Y i) (X k) (Y k) = false)
structure RC (N : Nat) (X Y : Nat → Int) (H : List Nat) : Prop where
  pos : 0 < H.length
  len : H.length ≤ N
  zero : gH H 0 = 0
  nz : ∀ i, 0 < i → i < H.length → gH H i ≠ 0
  lt : ∀ i, i < H.length → gH H i < N
  nxt : ∀ i, i < H.length → ∀ k, k < N → k ≠ gH H i → ((∀ j, j < N → goodR X Y (gH H i) k j) ↔ k = gH H ((i + 1) % H.length))
  ne : ∀ i, i < H.length → gH H ((i + 1) % H.length) ≠ gH H i
end Go.Proofs.Ytdlpfiiakmhnlaa

namespace Go.Proofs.Ytdlpfiiakmhnlaa
open Go.RowKit

theorem mul_le_pos {d x y : Int} (hd : 0 < d) (h : d * x ≤ d * y) : x ≤ y := by
  rcases Int.lt_or_le y x with h1 | h1
  · have := Int.mul_lt_mul_of_pos_left h1 hd; omega
  · exact h1
theorem mul_eq_pos {d x y : Int} (hd : 0 < d) (h : d * x = d * y) : x = y := Int.le_antisymm (mul_le_pos hd (by omega)) (mul_le_pos hd (by omega))
/-- on one line: in the box is between, left to right -/
theorem box_up {ax ay bx b_y px py : Int} (h1 : -2199023255552 ≤ ay) (h2 : ay ≤ 2199023255552) (h3 : -2199023255552 ≤ b_y) (h4 : b_y ≤ 2199023255552) (h5 : -2199023255552 ≤ py) (h6 : py ≤ 2199023255552) (hx : ax < bx)
    (ht : (bx - ax) * (py - ay) = (b_y - ay) * (px - ax)) :
    (btw ax bx px = true ∧ btw ay b_y py = true) ↔ 4398046511105 * ax + ay ≤ 4398046511105 * px + py ∧ 4398046511105 * px + py ≤ 4398046511105 * bx + b_y := by
  obtain ⟨d, hd⟩ : ∃ d, bx - ax = d := ⟨_, rfl⟩
  obtain ⟨e, he⟩ : ∃ e, b_y - ay = e := ⟨_, rfl⟩
  obtain ⟨u, hu⟩ : ∃ u, px - ax = u := ⟨_, rfl⟩
  obtain ⟨v, hv⟩ : ∃ v, py - ay = v := ⟨_, rfl⟩
  rw [hd, he, hu, hv] at ht
  have d0 : 0 < d := by omega
  unfold btw
  simp only [Bool.and_eq_true, decide_eq_true_eq]
  constructor
  · rintro ⟨⟨k1, k2⟩, k3, k4⟩
    have u0 : 0 ≤ u := by omega
    have u1 : u ≤ d := by omega
    constructor
    · rcases Int.lt_or_eq_of_le u0 with h | h
      · omega
      · rw [← h, Int.mul_zero] at ht
        have := g_zero_of (by omega) ht
        omega
    · rcases Int.lt_or_eq_of_le u1 with h | h
      · omega
      · rw [h, Int.mul_comm e d] at ht
        have := mul_eq_pos d0 ht
        omega
  · rintro ⟨k1, k2⟩
    have u0 : 0 ≤ u := by omega
    have u1 : u ≤ d := by omega
    refine ⟨⟨by omega, by omega⟩, ?_⟩
    rcases Int.lt_or_le e 0 with he0 | he0
    · have a1 : e * u ≤ 0 := by have := Int.mul_nonneg (show 0 ≤ -e by omega) u0; rw [Int.neg_mul] at this; omega
      have a2 : e * d ≤ e * u := by have := Int.mul_le_mul_of_nonneg_left u1 (show 0 ≤ -e by omega); rw [Int.neg_mul, Int.neg_mul] at this; omega
      have v0 : v ≤ 0 := mul_le_pos d0 (by omega)
      have v1 : e ≤ v := mul_le_pos d0 (by rw [Int.mul_comm d e]; omega)
      omega
    · have a1 : 0 ≤ e * u := Int.mul_nonneg he0 u0
      have a2 : e * u ≤ e * d := Int.mul_le_mul_of_nonneg_left u1 he0
      have v0 : 0 ≤ v := mul_le_pos d0 (by omega)
      have v1 : v ≤ e := mul_le_pos d0 (by rw [Int.mul_comm d e]; omega)
      omega
theorem btw_swap (a b n : Int) : btw a b n = btw b a n := by unfold btw; rw [Int.min_comm, Int.max_comm]
theorem box_lex {ax ay bx b_y px py : Int} (h1 : -2199023255552 ≤ ay) (h2 : ay ≤ 2199023255552) (h3 : -2199023255552 ≤ b_y) (h4 : b_y ≤ 2199023255552) (h5 : -2199023255552 ≤ py) (h6 : py ≤ 2199023255552) (hne : ¬ (ax = bx ∧ ay = b_y))
    (ht : trn ax ay bx b_y px py = 0) :
    (btw ax bx px = true ∧ btw ay b_y py = true) ↔ (4398046511105 * ax + ay ≤ 4398046511105 * px + py ∧ 4398046511105 * px + py ≤ 4398046511105 * bx + b_y) ∨ (4398046511105 * bx + b_y ≤ 4398046511105 * px + py ∧ 4398046511105 * px + py ≤ 4398046511105 * ax + ay) := by
  unfold trn at ht
  rcases Int.lt_trichotomy ax bx with h | h | h
  · rw [box_up h1 h2 h3 h4 h5 h6 h (by omega)]
    constructor
    · exact .inl
    · rintro (k | k)
      · exact k
      · omega
  · subst h
    rw [Int.sub_self, Int.zero_mul, Int.zero_sub] at ht
    have e0 : b_y - ay ≠ 0 := by omega
    have := g_zero_of e0 (show (b_y - ay) * (px - ax) = 0 by omega)
    have hp : px = ax := by omega
    subst hp
    unfold btw
    simp only [Bool.and_eq_true, decide_eq_true_eq]
    omega
  · have := box_up h3 h4 h1 h2 h5 h6 h (px := px) (by
      have e : (bx - ax) * (py - ay) - (b_y - ay) * (px - ax) = -((ax - bx) * (py - b_y) - (ay - b_y) * (px - bx)) := by grind
      omega)
    rw [btw_swap ax bx, btw_swap ay b_y, this]
    constructor
    · exact .inr
    · rintro (k | k)
      · omega
      · exact k
theorem allC_co {n : Nat} {X Y : Nat → Int} (h : allC n X Y = true) {i : Nat} (hi : i < n) : Co (X i) ∧ Co (Y i) := rp_co (allC_rpT h hi)
theorem sX_mono {N : Nat} {X Y : Nat → Int} (hR : gRis (sX X Y) N) {i j : Nat} (hi : i < N) (hj : j < N) : sX X Y i ≤ sX X Y j ↔ i ≤ j := by
  constructor
  · intro h
    rcases Nat.lt_or_ge j i with h1 | h1
    · have := hR j i h1 hi; omega
    · exact h1
  · intro h
    rcases Nat.lt_or_ge i j with h1 | h1
    · have := hR i j h1 hj; omega
    · rw [show i = j by omega]; exact Int.le_refl _
/-- lies on: on one line, between -/
theorem onB_iff {N : Nat} {X Y : Nat → Int} (hg : allC N X Y = true) (hr : risC N X Y) {a b k : Nat} (ha : a < N) (hb : b < N) (hk : k < N) (hne : a ≠ b) (ht : gT X Y a b k = 0) :
    onB (X a) (Y a) (X b) (Y b) (X k) (Y k) = true ↔ (a ≤ k ∧ k ≤ b) ∨ (b ≤ k ∧ k ≤ a) := by
  have hR := sX_ris hg hr
  obtain ⟨_, c1, c2⟩ := allC_co hg ha
  obtain ⟨_, c3, c4⟩ := allC_co hg hb
  obtain ⟨_, c5, c6⟩ := allC_co hg hk
  have hxy : ¬ (X a = X b ∧ Y a = Y b) := by
    rintro ⟨e1, e2⟩
    have e : sX X Y a = sX X Y b := by unfold sX; rw [e1, e2]
    have h1 := (sX_mono hR ha hb).1 (by omega)
    have h2 := (sX_mono hR hb ha).1 (by omega)
    omega
  have h := box_lex c1 c2 c3 c4 c5 c6 hxy (show trn (X a) (Y a) (X b) (Y b) (X k) (Y k) = 0 from ht)
  have m1 := sX_mono hR ha hk
  have m2 := sX_mono hR hk hb
  have m3 := sX_mono hR hb hk
  have m4 := sX_mono hR hk ha
  unfold sX at m1 m2 m3 m4
  rw [m1, m2, m3, m4] at h
  rw [← h]
  have g : rp3 (X a) (Y a) (X b) (Y b) (X k) (Y k) = true := by
    unfold rp3
    rw [allC_rpT hg ha, allC_rpT hg hb, allC_rpT hg hk]; rfl
  unfold onB
  rw [g, show trn (X a) (Y a) (X b) (Y b) (X k) (Y k) = 0 from ht]
  simp
theorem goodR_iff {N : Nat} {X Y : Nat → Int} (hg : allC N X Y = true) (hr : risC N X Y) {a b : Nat} (ha : a < N) (hb : b < N) (hne : a ≠ b) : (∀ k, k < N → goodR X Y a b k) ↔ gE (sX X Y) Y (N - 1) a b := by
  constructor
  · intro h k hk
    have hkN : k < N := by omega
    obtain ⟨h1, h2⟩ := h k hkN
    obtain ⟨s1, s2⟩ := wy_gT hg a b k ha hb hkN
    refine ⟨by have := mt s1.2 h1; omega, fun h0 => ?_⟩
    have h3 := h2 (s2.2 h0)
    have h0' : gT X Y a b k = 0 := by rw [sX_T] at h0; omega
    have ho := onB_iff hg hr ha hb hkN hne h0'
    constructor
    · rintro ⟨k1, k2⟩
      have := h3 (by omega) (by omega)
      rw [ho.2 (.inl ⟨by omega, by omega⟩)] at this; cases this
    · rintro ⟨k1, k2⟩
      have := h3 (by omega) (by omega)
      rw [ho.2 (.inr ⟨by omega, by omega⟩)] at this; cases this
  · intro h k hkN
    obtain ⟨h1, h2⟩ := h k (by omega)
    obtain ⟨s1, s2⟩ := wy_gT hg a b k ha hb hkN
    refine ⟨fun e => by have := s1.1 e; omega, fun h0 k1 k2 => ?_⟩
    have h3 := h2 (s2.1 h0)
    have h0' : gT X Y a b k = 0 := by have := s2.1 h0; rw [sX_T] at this; omega
    have ho := onB_iff hg hr ha hb hkN hne h0'
    cases hb' : onB (X a) (Y a) (X b) (Y b) (X k) (Y k) with
    | false => rfl
    | true => rcases ho.1 hb' with c | c <;> omega
/-- from one point on there is one way around alone -/
theorem gE_one {X Y : Nat → Int} {N a b c q : Nat} (hX : gRis X N) (hN : 1 < N) (ha : a < N) (hb : b < N) (hc : c < N) (hq : q < N) (nb : a ≠ b) (nc : a ≠ c) (hf : gT X Y 0 1 q ≠ 0) (h1 : gE X Y (N - 1) a b) (h2 : gE X Y (N - 1) a c) : b = c := by
  refine Classical.byContradiction fun hne => ?_
  have z0 : gT X Y a b c = 0 := by
    have k1 := (h1 c (by omega)).1
    have k2 := (h2 b (by omega)).1
    have e : gT X Y a c b = -gT X Y a b c := by unfold gT; grind
    omega
  have z1 : gT X Y a c b = 0 := by
    have e : gT X Y a c b = -gT X Y a b c := by unfold gT; grind
    omega
  have s1 := (h1 c (by omega)).2 z0
  have s2 := (h2 b (by omega)).2 z1
  have opp : (b < a ∧ a < c) ∨ (c < a ∧ a < b) := by omega
  have par : ∀ k, (X b - X a) * gT X Y a c k = (X c - X a) * gT X Y a b k := fun k => by
    have e := gT_xab (X := X) (Y := Y) a b c k
    have e2 : gT X Y a k b = -gT X Y a b k := by unfold gT; grind
    rw [z0, e2] at e
    have e3 : (X c - X a) * -gT X Y a b k = -((X c - X a) * gT X Y a b k) := Int.mul_neg _ _
    rw [e3, Int.mul_zero] at e
    omega
  have all0 : ∀ k, k < N → gT X Y a b k = 0 := fun k hk => by
    have k1 := (h1 k (by omega)).1
    have k2 := (h2 k (by omega)).1
    have p := par k
    rcases opp with ⟨o1, o2⟩ | ⟨o1, o2⟩
    · have x1 := hX b a o1 ha
      have x2 := hX a c o2 hc
      have l1 : (X b - X a) * gT X Y a c k ≤ 0 := by
        have := Int.mul_nonneg (show 0 ≤ X a - X b by omega) k2
        have e : (X b - X a) * gT X Y a c k = -((X a - X b) * gT X Y a c k) := by grind
        omega
      have l2 := Int.mul_nonneg (show 0 ≤ X c - X a by omega) k1
      exact g_zero_of (show X c - X a ≠ 0 by omega) (by omega)
    · have x1 := hX c a o1 ha
      have x2 := hX a b o2 hb
      have l1 := Int.mul_nonneg (show 0 ≤ X b - X a by omega) k2
      have l2 : (X c - X a) * gT X Y a b k ≤ 0 := by
        have := Int.mul_nonneg (show 0 ≤ X a - X c by omega) k1
        have e : (X c - X a) * gT X Y a b k = -((X a - X c) * gT X Y a b k) := by grind
        omega
      exact g_zero_of (show X c - X a ≠ 0 by omega) (by omega)
  have e := gT_line (X := X) (Y := Y) a b 0 1 q
  rw [all0 0 (by omega), all0 1 hN, all0 q hq] at e
  have xb : X b - X a ≠ 0 := by
    rcases Nat.lt_or_gt_of_ne nb with h | h
    · have := hX a b h hb; omega
    · have := hX b a h ha; omega
  refine hf (g_zero_of xb ?_)
  rw [Int.mul_comm]; rw [e]; simp
theorem rc_of {N q : Nat} {X Y : Nat → Int} (hg : allC N X Y = true) (hr : risC N X Y) (hl : isLn N X Y q) (hq : q < N) {h : List Nat} {z : Nat} (H : Hul (sX X Y) Y (N - 1) h) (hz : z < h.length) (hz0 : gH h z = 0) (hln : h.length ≤ N) : RC N X Y (rotH h z) := by
  have h3 := H.len
  have h2 : 2 ≤ q := by have := hl.1; omega
  have ml : ∀ k, k % h.length < h.length := fun k => Nat.mod_lt _ (by omega)
  have hlen := rotH_len h z
  have hX := sX_ris hg hr
  have hf : gT (sX X Y) Y 0 1 q ≠ 0 := fun e => hl.2.2.2 hq ((wy_gT hg 0 1 q (by omega) (by omega) hq).2.2 e)
  have hle : ∀ i, i < h.length → gH h i < N := fun i hi => by have := H.le i hi; omega
  have nx : ∀ i, i < h.length → gH (rotH h z) ((i + 1) % h.length) = gH h (((z + i) % h.length + 1) % h.length) := fun i hi => by
    rw [rotH_at (ml _), Nat.add_mod_mod, Nat.mod_add_mod, show z + (i + 1) = z + i + 1 by omega]
  have nne : ∀ i, i < h.length → gH h ((i + 1) % h.length) ≠ gH h i := fun i hi e => (pred_ne hi h3).2.1 (H.nd _ _ (ml _) hi e)
  refine ⟨by omega, by omega, ?_, fun i h0 hi => ?_, fun i hi => ?_, fun i hi k hk hne => ?_, fun i hi => ?_⟩
  · rw [rotH_at (by omega), Nat.add_zero, Nat.mod_eq_of_lt hz, hz0]
  · rw [hlen] at hi
    rw [rotH_at hi]
    intro e
    have := H.nd _ _ (ml _) hz (e.trans hz0.symm)
    have h5 : i = 0 := g_mod_inj (f := z) hi (by omega) (by rw [this, Nat.add_zero, Nat.mod_eq_of_lt hz])
    omega
  · rw [hlen] at hi
    rw [rotH_at hi]
    exact hle _ (ml _)
  · rw [hlen] at hi ⊢
    rw [nx i hi]
    rw [rotH_at hi] at hne ⊢
    have e0 := H.edge _ (ml (z + i))
    have n0 := nne _ (ml (z + i))
    have l0 := hle _ (ml (z + i))
    have l1 := hle _ (ml ((z + i) % h.length + 1))
    rw [goodR_iff hg hr l0 hk hne.symm]
    constructor
    · intro h5
      exact gE_one hX (by omega) l0 hk l1 hq hne.symm n0.symm hf h5 e0
    · intro h5; rw [h5]; exact e0
  · rw [hlen] at hi ⊢
    rw [nx i hi, rotH_at hi]
    exact nne _ (ml _)
end Go.Proofs.Ytdlpfiiakmhnlaa

namespace Go.Proofs.Ytdlpfiiakmhnlaa
open Go.RowKit

/-- what Build makes of points -/
structure Tri (N : Nat) (X Y : Nat → Int) (q : Nat) (T : List Tri3) (O : Nat → List (Nat × Nat)) : Prop where
  ln : isLn N X Y q
  none : q = N → T = []
  some : q < N → ∃ h z, T = (bld X Y q (N - 1 - q)).2 ∧ h = (bld X Y q (N - 1 - q)).1 ∧ Hul (sX X Y) Y (N - 1) h ∧ Bnd (N - 1) h T ∧ Brd h T ∧ z < h.length ∧ gH h z = 0 ∧ HC N O (rotH h z) ∧ RC N X Y (rotH h z)
  fresh : Fresh N (fun _ _ => False) T
  rep : RepS O (gSd T)
  all : O = putAll (fun _ => []) T
theorem Tri.of {N q : Nat} {X Y : Nat → Int} (hg : allC N X Y = true) (hr : risC N X Y) (hl : isLn N X Y q) : Tri N X Y q (bldT N X Y q) (putAll (fun _ => []) (bldT N X Y q)) := by
  have fr : Fresh N (fun _ _ => False) (bldT N X Y q) := by
    unfold bldT
    split
    · trivial
    · have := hl.2.1; exact (bld_st hg hr hl (by omega) _ (by omega)).2.2
  have rp : RepS (putAll (fun _ => []) (bldT N X Y q)) (gSd (bldT N X Y q)) := rep_cong (rep_all _ rep_none fr) fun a b => ⟨fun h => h.elim False.elim id, .inr⟩
  refine ⟨hl, fun e => ?_, fun hq => ?_, fr, rp, rfl⟩
  · unfold bldT; rw [if_pos e]
  · have e : bldT N X Y q = (bld X Y q (N - 1 - q)).2 := by unfold bldT; rw [if_neg (by omega)]
    have em : q + (N - 1 - q) = N - 1 := by omega
    obtain ⟨H, B, _⟩ := bld_st hg hr hl hq (N - 1 - q) (by omega)
    have R := bld_brd hg hr hl hq (N - 1 - q) (by omega)
    rw [em] at H B
    rw [← e] at B R
    obtain ⟨z, z1, z2, z3⟩ := hc_of (N := N) H B R rp (by omega)
    exact ⟨_, z, e, rfl, H, B, R, z1, z2, z3, rc_of hg hr hl hq H z1 z2 (by have := B.hln; omega)⟩
theorem Build_tri (ao : Option Addr) (N cap : Nat) (X Y : Nat → Int) (w : World) (h : Pts w ao N cap X Y) (hN : N ≤ 4096) (hg : allC N X Y = true) (hr : risC N X Y) :
    Calls Try.prog 12 #[.slice ao N cap] w fun e w' => ∃ (t : Nat) (D : SD) (q : Nat) (T : List Tri3) (O : Nat → List (Nat × Nat)), e = .returned (.tuple #[ptr t 0, .int .i64 0]) ∧ Tri N X Y q T O ∧
      SM w' t D N X Y O (T.length : Nat) ∧ (∀ g, D.has t N g → w.heap.size ≤ g) ∧ Below w.heap.size w w' := by
  refine (Build_is ao N cap X Y w h hN hg hr).mono ?_
  rintro e w' ⟨t, D, q, he, hl, hs, h1, h2⟩
  exact ⟨t, D, q, _, _, he, Tri.of hg hr hl, hs, h1, h2⟩
/-- a block of whole points -/
theorem Pts.ofBlk {w : World} {b n : Nat} {c : Array Value} {X Y : Nat → Int} {ty : TypeId} (h : Blk w b c ty) (hn : n ≤ 9223372036854775807) (hc : ∀ i, i < n → c[i * 2]? = some (.int .i64 (X i)) ∧ c[i * 2 + 1]? = some (.int .i64 (Y i))) : Pts w (some ⟨b, 0, none⟩) n n X Y := by
  refine ⟨fun h0 => ⟨_, rfl, h.lt, fun i hi => ?_⟩, Nat.le_refl _, hn⟩
  obtain ⟨h1, h2⟩ := hc i hi
  have e : (⟨b, 0, none⟩ : Addr).add (i * 2) = ⟨b, i * 2, none⟩ := by unfold Addr.add; split <;> simp_all
  rw [e]
  exact ⟨(h.cell (i * 2)).trans h1, (h.cell (i * 2 + 1)).trans h2⟩
def lX (l : List Int) : Nat → Int := fun i => l.getD i 0
theorem aw_q {q : Nat} (h : isLn 4 (lX [0, 0, 2, 2]) (lX [0, 2, 0, 2]) q) : q = 2 := by
  have h1 : 2 ≤ q := by have := h.1; omega
  rcases Nat.lt_or_ge 2 q with h2 | h2
  · have := h.2.2.1 2 (Nat.le_refl _) h2
    exact absurd this (by decide)
  · omega
theorem aw_q2 {q : Nat} (h : isLn 3 (lX [0, 1, 2]) (lX [0, 0, 0]) q) : q = 3 := by
  have h1 : 2 ≤ q := by have := h.1; omega
  have h3 := h.2.1
  rcases Nat.lt_or_ge q 3 with h2 | h2
  · obtain rfl : q = 2 := by omega
    exact absurd (by decide) (h.2.2.2 h2)
  · omega
theorem aw_len : (bldT 4 (lX [0, 0, 2, 2]) (lX [0, 2, 0, 2]) 2).length = 2 ∧ (bld (lX [0, 0, 2, 2]) (lX [0, 2, 0, 2]) 2 1).1.length = 4 := by decide +kernel
theorem aw_1 : allC 4 (lX [0, 0, 2, 2]) (lX [0, 2, 0, 2]) = true ∧ risC 4 (lX [0, 0, 2, 2]) (lX [0, 2, 0, 2]) := by
  refine ⟨by decide, fun i hi => ?_⟩
  rcases (show i = 0 ∨ i = 1 ∨ i = 2 by omega) with rfl | rfl | rfl <;> decide
theorem aw_2 : allC 3 (lX [0, 1, 2]) (lX [0, 0, 0]) = true ∧ risC 3 (lX [0, 1, 2]) (lX [0, 0, 0]) := by
  refine ⟨by decide, fun i hi => ?_⟩
  rcases (show i = 0 ∨ i = 1 by omega) with rfl | rfl <;> decide
theorem aw_3 : allC 2 (lX [1, 0]) (lX [0, 0]) = true ∧ ¬ risC 2 (lX [1, 0]) (lX [0, 0]) := by
  refine ⟨by decide, fun h => absurd (h 0 (by omega)) (by decide)⟩
end Go.Proofs.Ytdlpfiiakmhnlaa

namespace Go.Proofs.Ytdlpfiiakmhnlaa
open Go.RowKit
attribute [local go_sem] undef

set_option maxRecDepth 100000 in
set_option maxHeartbeats 2000000 in
theorem awake_is (w : World) : Calls Try.prog 11 #[] w fun e w' => e = .returned (.bool true) ∧ Below w.heap.size w w' := by
  go_enter Try.func11, Try.ntmps11
  go_wp2_with fail
  refine calls_w ?_
  intro V hV
  have bV : Below w.heap.size w V := by rw [hV]; exact below_a1 _ _
  have P1 : Pts V (some ⟨w.heap.size, 0, none⟩) 4 4 (lX [0, 0, 2, 2]) (lX [0, 2, 0, 2]) := by
    rw [hV]
    refine Pts.ofBlk (Blk.new w _ _) (by omega) fun i hi => ?_
    rcases (show i = 0 ∨ i = 1 ∨ i = 2 ∨ i = 3 by omega) with rfl | rfl | rfl | rfl <;> exact ⟨rfl, rfl⟩
  clear hV
  refine (Build_tri _ 4 4 _ _ V P1 (by omega) aw_1.1 aw_1.2).mono ?_
  rintro e V2 ⟨t, D, q, T, O, rfl, hT, hS, _, hb⟩
  obtain rfl := aw_q hT.ln
  obtain ⟨h, z, e1, e2, _, _, _, _, _, hH, _⟩ := hT.some (by omega)
  have hl : T.length = 2 := by
    rw [e1]; exact aw_len.1
  have hl2 : (rotH h z).length = 4 := by rw [rotH_len, e2]; exact aw_len.2
  rw [hl] at hS
  have HS := Lib.hid hS
  have HH := Lib.hid hH
  have HL := Lib.hid hl2
  have B2 := Lib.hid (bV.trans (hb.mono bV.size))
  clear P1 hT hS hH hl hl2 e1 e2 hb bV
  go_wp2_with fail
  refine (Len_is t D 4 _ _ O _ V2 HS.out).mono ?_
  rintro e V3 ⟨rfl, hb⟩
  have HS3 := Lib.hid (HS.out.of hb)
  have B3 := Lib.hid (B2.out.trans (hb.mono B2.out.size))
  clear hb HS B2
  go_wp2_with fail
  refine calls_w ?_
  intro V hV
  have bV : Below V3.heap.size V3 V := by rw [hV]; exact below_a1 _ _
  have P1 : Pts V (some ⟨V3.heap.size, 0, none⟩) 3 3 (lX [0, 1, 2]) (lX [0, 0, 0]) := by
    rw [hV]
    refine Pts.ofBlk (Blk.new V3 _ _) (by omega) fun i hi => ?_
    rcases (show i = 0 ∨ i = 1 ∨ i = 2 by omega) with rfl | rfl | rfl <;> exact ⟨rfl, rfl⟩
  clear hV
  refine (Build_tri _ 3 3 _ _ V P1 (by omega) aw_2.1 aw_2.2).mono ?_
  rintro e V4 ⟨t2, D2, q2, T2, O2, rfl, hT, hS, _, hb⟩
  obtain rfl := hT.none (aw_q2 hT.ln)
  have HA := Lib.hid hS
  have BB := bV.trans (hb.mono bV.size)
  have HS4 := Lib.hid (HS3.out.of BB)
  have B4 := Lib.hid (B3.out.trans (BB.mono B3.out.size))
  clear P1 hT hS hb BB bV HS3 B3
  go_wp2_with fail
  refine calls_w ?_
  intro V hV
  have bV : Below V4.heap.size V4 V := by rw [hV]; exact below_a1 _ _
  have P1 : Pts V (some ⟨V4.heap.size, 0, none⟩) 2 2 (lX [1, 0]) (lX [0, 0]) := by
    rw [hV]
    refine Pts.ofBlk (Blk.new V4 _ _) (by omega) fun i hi => ?_
    rcases (show i = 0 ∨ i = 1 by omega) with rfl | rfl <;> exact ⟨rfl, rfl⟩
  clear hV
  refine (Build_fall _ 2 2 _ _ V P1 (by omega) aw_3.1 aw_3.2).mono ?_
  rintro e V5 ⟨rfl, hb⟩
  have BB := bV.trans (hb.mono bV.size)
  have HS5 := Lib.hid (HS4.out.of BB)
  have HA5 := Lib.hid (HA.out.of BB)
  have B5 := Lib.hid (B4.out.trans (BB.mono B4.out.size))
  clear P1 hb BB bV HS4 B4 HA
  go_wp2_with fail
  refine (Len_is t2 D2 3 _ _ O2 _ V5 HA5.out).mono ?_
  rintro e V6 ⟨rfl, hb⟩
  have HS6 := Lib.hid (HS5.out.of hb)
  have B6 := Lib.hid (B5.out.trans (hb.mono B5.out.size))
  clear hb HS5 B5 HA5
  go_wp2_with fail
  refine (Hull_is t D 4 _ _ O _ _ HH.out (by decide) V6 HS6.out).mono ?_
  rintro e V7 ⟨v, rfl, hv, hb⟩
  obtain ⟨ao, cap, rfl, _⟩ := hv.val
  rw [HL.out]
  have B7 := Lib.hid (B6.out.trans (hb.mono B6.out.size))
  clear hb hv HS6 B6
  go_wp2
  go_ret
  exact ⟨rfl, B7.out⟩
end Go.Proofs.Ytdlpfiiakmhnlaa

namespace Go.Proofs.Ytdlpfiiakmhnlaa
open Go.RowKit
attribute [local go_sem] undef

def nxI (z i : Nat) : Int := if z < i then (z : Int) else -1
theorem nxI_up {z i : Nat} (h : i = z) : nxI z (i + 1) = (i : Int) := by unfold nxI; rw [if_pos (by omega), h]
theorem nxI_st {z i : Nat} (h : i ≠ z) : nxI z (i + 1) = nxI z i := by
  unfold nxI
  by_cases h1 : z < i
  · rw [if_pos h1, if_pos (by omega)]
  · rw [if_neg h1, if_neg (by omega)]
theorem NL.own2 {w : World} {base : Nat} {v : Value} {L : List Nat} (h : NL w base v L) {g : Nat} (hg : v.ownBlock = some g) : base ≤ g ∧ g < w.heap.size := World.ownsRow.lt h g hg
theorem NL.cnt {w : World} {base : Nat} {ao : Option Addr} {n cap : Nat} {L : List Nat} (h : NL w base (.slice ao n cap) L) : n = L.length := by
  obtain ⟨a, c, e, _⟩ := h.val
  injection e
theorem gH_take2 {H : List Nat} {k : Nat} (hk : k < H.length) : H.take (k + 1) = H.take k ++ [gH H k] := by
  rw [List.take_add_one, gH_at hk]; rfl
set_option maxRecDepth 100000 in
set_option maxHeartbeats 8000000 in
theorem rHull_is (ao : Option Addr) (N cap : Nat) (X Y : Nat → Int) (w : World) (h : Pts w ao N cap X Y) (hN : N ≤ 4096) (H : List Nat) (hR : RC N X Y H) :
    Calls Try.prog 16 #[.slice ao N cap] w fun e w' => ∃ v, e = .returned v ∧ NL w' w.heap.size v H ∧ Below w.heap.size w w' := by
  have hcl := h.capl
  have hcb := h.capb
  have HO := Lib.hid h
  have HH := Lib.hid hR
  have hpos := hR.pos
  have hlen := hR.len
  clear h hR
  obtain ⟨pa, rfl, _⟩ := HO.out.atP (by omega)
  obtain ⟨n, hn⟩ : ∃ n, H.length = n := ⟨_, rfl⟩
  have HLN := Lib.hid hn
  rw [hn] at hpos hlen
  clear hn
  go_enter Try.func16, Try.ntmps16
  go_wp2_with fail
  go_loopg [3, 4] n (fun gk s3 s4 wr => ∃ (k : Nat) (ho : Option Addr) (hc a : Nat), s3 = .slice ho k hc ∧ s4 = .int .i64 (a : Nat) ∧ k ≤ n ∧ n - k ≤ gk ∧ (k = n → a = 0) ∧ (0 < k → k < n → a ≠ 0) ∧ Hid (a = gH H (k % n)) ∧ Hid (NL wr w.heap.size (.slice ho k hc) (H.take k)) ∧ Below w.heap.size w wr)
  case atStart =>
    refine ⟨0, none, 0, 0, rfl, rfl, by omega, by omega, fun _ => rfl, fun h => by omega, Lib.hid ?_, Lib.hid NL.none, Below.refl _ _⟩
    first | exact HH.out.zero.symm | (rw [Nat.zero_mod]; exact HH.out.zero.symm)
  case round =>
    obtain ⟨k, ho, hc, a, rfl, rfl, hk, hgk, ha0, han, HA, HNL, hb⟩ := hrel
    by_cases hlt : k < n
    · have haN : a < N := by rw [HA.out, Nat.mod_eq_of_lt hlt]; exact HH.out.lt k (by rw [HLN.out]; exact hlt)
      have hsz := hb.size
      rcases Nat.eq_zero_or_pos k with hk0 | hk0
      · subst hk0
        have hq1 : (H.take 0).length < 100000 := by rw [List.length_take]; omega
        have hq2 : w.heap.size ≤ (wr.alloc (.cells #[.int .i64 (a : Nat)] 3)).heap.size := by simp; omega
        go_wp2_with (at_builtin; go_loud (refine wpList_append_nl rfl _ _ rfl w.heap.size (.slice ho 0 hc) (H.take 0) a wr.heap.size rfl rfl (Blk.new wr _ _) (HNL.out.of (below_a1 _ _)) hq1 hq2 ?_))
        intro ho2 m2 hc2 V1 nl2 gr2
        have hva : (wr.alloc (.cells #[.int .i64 (a : Nat)] 3)).heap.size = wr.heap.size + 1 := by simp
        have hoy : ∀ g, (Value.slice ho 0 hc).ownBlock = some g → w.heap.size ≤ g := fun g hg => (HNL.out.own2 hg).1
        have BB : Hid (Below w.heap.size w V1) := Lib.hid (hb.trans ⟨gr2.os, gr2.tape, gr2.output, by have := gr2.size; omega, fun g hg => (gr2.block g (by omega) (fun e => by have := hoy g e.symm; omega)).trans ((below_a1 wr _).block g (by omega))⟩)
        have hm3 : m2 = 0 + 1 := by rw [nl2.cnt]; first | rfl | (have := HLN.out; simp; omega)
        have NL3 : Hid (NL V1 w.heap.size (.slice ho2 (0 + 1) hc2) (H.take (0 + 1))) := by
          rw [gH_take2 (by rw [HLN.out]; exact hlt), ← hm3]
          have e : gH H 0 = a := by rw [HA.out, Nat.mod_eq_of_lt hlt]
          rw [e]; exact Lib.hid nl2
        subst hm3
        have hz1 := BB.out.size
        clear hva hoy nl2 gr2 HNL hq1 hq2 hb
        obtain ⟨z, hz⟩ : ∃ z, gH H ((0 + 1) % n) = z := ⟨_, rfl⟩
        have HNX : Hid ((∀ i, i < N → i ≠ a → ((∀ j, j < N → goodR X Y a i j) ↔ i = z)) ∧ z ≠ a ∧ z < N) := by
          have h1 := HH.out.nxt 0 (by rw [HLN.out]; exact hlt)
          have h2 := HH.out.ne 0 (by rw [HLN.out]; exact hlt)
          have e : gH H 0 = a := by rw [HA.out, Nat.mod_eq_of_lt hlt]
          rw [HLN.out, hz, e] at h1 h2
          refine Lib.hid ⟨h1, h2, ?_⟩
          rw [← hz]; exact HH.out.lt _ (by rw [HLN.out]; exact Nat.mod_lt _ (by omega))
        have HZ := Lib.hid hz
        clear hz
        obtain ⟨ax, hax⟩ : ∃ x, X a = x := ⟨_, rfl⟩
        obtain ⟨ay, hay⟩ : ∃ x, Y a = x := ⟨_, rfl⟩
        have HAP := Lib.hid (And.intro hax hay)
        clear hax hay
        go_wp2_with fail
        go_loopg [5, 6] N (fun gk s5 s6 wi => ∃ i : Nat, s5 = .int .i64 (nxI z i) ∧ s6 = .int .i64 (i : Nat) ∧ i ≤ N ∧ N - i ≤ gk ∧ Hid (Below V1.heap.size V1 wi))
        case atStart => exact ⟨0, by unfold nxI; rw [if_neg (by omega)], rfl, by omega, by omega, Lib.hid (Below.refl _ _)⟩
        case round =>
          obtain ⟨i, rfl, rfl, hi, hgi, HWi⟩ := hrel
          by_cases hilt : i < N
          · by_cases hia : i = a
            · subst hia
              have HN2 := Lib.hid (nxI_st (show i ≠ z from fun e => HNX.out.2.1 e.symm))
              go_wp2_with fail
              go_roundg (N - (i + 1))
              case measure => omega
              case rel => exact ⟨i + 1, by rw [HN2.out], by norm_cast, by omega, Nat.le_refl _, HWi⟩
            · have hia2 : ((i : Int) == (a : Int)) = false := by simp; omega
              obtain ⟨ix, hix⟩ : ∃ x, X i = x := ⟨_, rfl⟩
              obtain ⟨iy, hiy⟩ : ∃ x, Y i = x := ⟨_, rfl⟩
              have HI := Lib.hid (And.intro hix hiy)
              clear hix hiy
              go_wp2_with fail
              go_loopg [7, 8] N (fun gk s7 s8 wj => ∃ (j : Nat) (b : Bool), s7 = .bool b ∧ s8 = .int .i64 (j : Nat) ∧ j ≤ N ∧ N - j ≤ gk ∧ Hid (b = true ↔ ∀ q, q < j → goodR X Y a i q) ∧ Hid (Below V1.heap.size V1 wj))
              case atStart => exact ⟨0, true, rfl, rfl, by omega, by omega, Lib.hid ⟨fun _ q hq => by omega, fun _ => rfl⟩, HWi⟩
              case round =>
                obtain ⟨j, b, rfl, rfl, hj, hgj, HG, HWj⟩ := hrel
                by_cases hjlt : j < N
                · obtain ⟨r, hr⟩ : ∃ r, wy X Y a i j = r := ⟨_, rfl⟩
                  obtain ⟨cx, hcx⟩ : ∃ x, X j = x := ⟨_, rfl⟩
                  obtain ⟨cy, hcy⟩ : ∃ x, Y j = x := ⟨_, rfl⟩
                  have HC := Lib.hid (And.intro hcx hcy)
                  clear hcx hcy
                  have HR := Lib.hid hr
                  have hw : Hid (way ax ay ix iy cx cy = r) := by rw [← hr, ← HAP.out.1, ← HAP.out.2, ← HI.out.1, ← HI.out.2, ← HC.out.1, ← HC.out.2]; exact Lib.hid rfl
                  have hr3 : r = -1 ∨ r = 0 ∨ r = 1 := by rw [← hr]; exact wy_cases _ _ _ _ _
                  clear hr
                  have hbj := BB.out.trans (HWj.out.mono hz1)
                  obtain ⟨pa2, he2, hpt⟩ := (HO.out.of hbj).atP (by omega)
                  injection he2 with he2
                  rw [← he2] at hpt
                  have qa := hpt a haN
                  rw [HAP.out.1, HAP.out.2] at qa
                  have qa0 := fun u => (qa u).1
                  have qa1 := fun u => (qa u).2
                  have qi := hpt i hilt
                  rw [HI.out.1, HI.out.2] at qi
                  have qi0 := fun u => (qi u).1
                  have qi1 := fun u => (qi u).2
                  have qc := hpt j hjlt
                  rw [HC.out.1, HC.out.2] at qc
                  have qc0 := fun u => (qc u).1
                  have qc1 := fun u => (qc u).2
                  clear hpt he2 qa qi qc
                  go_wp2_with fail
                  refine wp_region_up wr.heap.size 12 [(true, 0), (true, 1), (true, 2), (true, 3), (true, 4), (true, 5), (true, 6), (true, 7), (true, 8), (true, 9), (true, 10), (true, 11)] (by kernel_rfl) (by kernel_rfl) (fun _ _ d _ _ h => by cases d <;> exact h) ?_
                  have hb : Below wr.heap.size wr wr.drew := (Below.refl _ _).drew
                  iterate 12
                    refine wpS_takeL rfl rfl ?_
                    go_big_quiet_step (rfl)
                    refine wpQuiet_nil ?_
                  refine wpS_nil ?_
                  simp only [List.drop_succ_cons, List.drop_zero]
                  go_wp2_with fail
                  refine (rWy_is ax ay ix iy cx cy r hw.out _).mono ?_
                  rintro e w2 ⟨rfl, hn⟩
                  have HW2 := Lib.hid ((HWj.out.trans (hb.mono HWj.out.size)).trans (hn.mono (HWj.out.trans (hb.mono HWj.out.size)).size))
                  clear hn hb hbj qa0 qa1 qi0 qi1 qc0 qc1
                  rcases hr3 with rfl | rfl | rfl
                  · go_wp2_with fail
                    refine wp_region_up w2.heap.size 28 [(true, 0), (true, 1), (true, 2), (true, 3), (true, 4), (true, 5), (true, 6), (true, 7), (true, 8), (true, 9), (true, 10), (true, 11), (true, 12), (true, 13), (true, 14), (true, 15), (true, 16), (true, 17), (true, 18), (true, 19), (true, 20), (true, 21), (true, 22), (true, 23), (true, 24), (true, 25), (true, 26), (true, 27)] (by kernel_rfl) (by kernel_rfl) (fun _ _ d _ _ h => by cases d <;> exact h) ?_
                    have hb : Below w2.heap.size w2 w2.drew := (Below.refl _ _).drew
                    iterate 28
                      refine wpS_takeL rfl rfl ?_
                      go_big_quiet_step (rfl)
                      refine wpQuiet_nil ?_
                    refine wpS_nil ?_
                    simp only [List.drop_succ_cons, List.drop_zero]
                    have HW3 := Lib.hid (HW2.out.trans (hb.mono HW2.out.size))
                    have HF : Hid (false = true ↔ ∀ q, q < j + 1 → goodR X Y a i q) := Lib.hid (by refine ⟨fun h => (by cases h), fun h => ?_⟩; have := (h j (by omega)).1; rw [HR.out] at this; exact absurd (by decide) this)
                    clear hb
                    go_wp2_with fail
                    go_roundg (N - (j + 1))
                    case measure => omega
                    case rel => exact ⟨j + 1, false, rfl, by norm_cast, by omega, Nat.le_refl _, HF, HW3⟩
                  · by_cases hja : j = a
                    · subst hja
                      go_wp2_with fail
                      refine wp_region_up w2.heap.size 28 [(true, 0), (true, 1), (true, 2), (true, 3), (true, 4), (true, 5), (true, 6), (true, 7), (true, 8), (true, 9), (true, 10), (true, 11), (true, 12), (true, 13), (true, 14), (true, 15), (true, 16), (true, 17), (true, 18), (true, 19), (true, 20), (true, 21), (true, 22), (true, 23), (true, 24), (true, 25), (true, 26), (true, 27)] (by kernel_rfl) (by kernel_rfl) (fun _ _ d _ _ h => by cases d <;> exact h) ?_
                      have hb : Below w2.heap.size w2 w2.drew := (Below.refl _ _).drew
                      iterate 28
                        refine wpS_takeL rfl rfl ?_
                        go_big_quiet_step (rfl)
                        refine wpQuiet_nil ?_
                      refine wpS_nil ?_
                      simp only [List.drop_succ_cons, List.drop_zero]
                      have HW3 := Lib.hid (HW2.out.trans (hb.mono HW2.out.size))
                      have HF : Hid (b = true ↔ ∀ q, q < j + 1 → goodR X Y j i q) := Lib.hid (by refine HG.out.trans ⟨fun h q hq => ?_, fun h q hq => h q (by omega)⟩; rcases Nat.lt_or_ge q j with h1 | h1; exact h q h1; have e : q = j := (by omega); subst e; exact ⟨by rw [HR.out]; decide, fun _ h2 => absurd rfl h2⟩)
                      clear hb
                      go_wp2_with fail
                      go_roundg (N - (j + 1))
                      case measure => omega
                      case rel => exact ⟨j + 1, b, rfl, by norm_cast, by omega, Nat.le_refl _, HF, HW3⟩
                    · by_cases hji : j = i
                      · subst hji
                        have hja2 : ((j : Int) != (a : Int)) = true := by simp; omega
                        go_wp2_with fail
                        refine wp_region_up w2.heap.size 28 [(true, 0), (true, 1), (true, 2), (true, 3), (true, 4), (true, 5), (true, 6), (true, 7), (true, 8), (true, 9), (true, 10), (true, 11), (true, 12), (true, 13), (true, 14), (true, 15), (true, 16), (true, 17), (true, 18), (true, 19), (true, 20), (true, 21), (true, 22), (true, 23), (true, 24), (true, 25), (true, 26), (true, 27)] (by kernel_rfl) (by kernel_rfl) (fun _ _ d _ _ h => by cases d <;> exact h) ?_
                        have hb : Below w2.heap.size w2 w2.drew := (Below.refl _ _).drew
                        iterate 28
                          refine wpS_takeL rfl rfl ?_
                          go_big_quiet_step (rfl)
                          refine wpQuiet_nil ?_
                        refine wpS_nil ?_
                        simp only [List.drop_succ_cons, List.drop_zero]
                        have HW3 := Lib.hid (HW2.out.trans (hb.mono HW2.out.size))
                        have HF : Hid (b = true ↔ ∀ q, q < j + 1 → goodR X Y a j q) := Lib.hid (by refine HG.out.trans ⟨fun h q hq => ?_, fun h q hq => h q (by omega)⟩; rcases Nat.lt_or_ge q j with h1 | h1; exact h q h1; have e : q = j := (by omega); subst e; exact ⟨by rw [HR.out]; decide, fun _ _ h2 => absurd rfl h2⟩)
                        clear hb
                        go_wp2_with fail
                        go_roundg (N - (j + 1))
                        case measure => omega
                        case rel => exact ⟨j + 1, b, rfl, by norm_cast, by omega, Nat.le_refl _, HF, HW3⟩
                      · have hja2 : ((j : Int) != (a : Int)) = true := by simp; omega
                        have hji2 : ((j : Int) != (i : Int)) = true := by simp; omega
                        obtain ⟨o, ho_⟩ : ∃ o, onB ax ay ix iy cx cy = o := ⟨_, rfl⟩
                        have HON := Lib.hid ho_
                        clear ho_
                        have hb2 := BB.out.trans (HW2.out.mono hz1)
                        obtain ⟨pa2, he2, hpt⟩ := (HO.out.of hb2).atP (by omega)
                        injection he2 with he2
                        rw [← he2] at hpt
                        have qa := hpt a haN
                        rw [HAP.out.1, HAP.out.2] at qa
                        have qa0 := fun u => (qa u).1
                        have qa1 := fun u => (qa u).2
                        have qi := hpt i hilt
                        rw [HI.out.1, HI.out.2] at qi
                        have qi0 := fun u => (qi u).1
                        have qi1 := fun u => (qi u).2
                        have qc := hpt j hjlt
                        rw [HC.out.1, HC.out.2] at qc
                        have qc0 := fun u => (qc u).1
                        have qc1 := fun u => (qc u).2
                        clear hpt he2 qa qi qc
                        go_wp2_with fail
                        refine wp_region_up w2.heap.size 28 [(true, 0), (true, 1), (true, 2), (true, 3), (true, 4), (true, 5), (true, 6), (true, 7), (true, 8), (true, 9), (true, 10), (true, 11), (true, 12), (true, 13), (true, 14), (true, 15), (true, 16), (true, 17), (true, 18), (true, 19), (true, 20), (true, 21), (true, 22), (true, 23), (true, 24), (true, 25), (true, 26), (true, 27)] (by kernel_rfl) (by kernel_rfl) (fun _ _ d _ _ h => by cases d <;> exact h) ?_
                        have hb : Below w2.heap.size w2 w2.drew := (Below.refl _ _).drew
                        iterate 28
                          refine wpS_takeL rfl rfl ?_
                          go_big_quiet_step (rfl)
                          refine wpQuiet_nil ?_
                        refine wpS_nil ?_
                        simp only [List.drop_succ_cons, List.drop_zero]
                        go_wp2_with fail
                        refine (rOnB_is ax ay ix iy cx cy o HON.out _).mono ?_
                        rintro e w3 ⟨rfl, hn⟩
                        have HW3 := Lib.hid ((HW2.out.trans (hb.mono HW2.out.size)).trans (hn.mono (HW2.out.trans (hb.mono HW2.out.size)).size))
                        have HOB := Lib.hid (show onB (X a) (Y a) (X i) (Y i) (X j) (Y j) = o by rw [HAP.out.1, HAP.out.2, HI.out.1, HI.out.2, HC.out.1, HC.out.2]; exact HON.out)
                        clear hn hb hb2 qa0 qa1 qi0 qi1 qc0 qc1
                        cases o with
                        | true =>
                          have HF : Hid (false = true ↔ ∀ q, q < j + 1 → goodR X Y a i q) := Lib.hid (by refine ⟨fun h => (by cases h), fun h => ?_⟩; have := (h j (by omega)).2 HR.out hja hji; rw [HOB.out] at this; cases this)
                          go_wp2_with fail
                          go_roundg (N - (j + 1))
                          case measure => omega
                          case rel => exact ⟨j + 1, false, rfl, by norm_cast, by omega, Nat.le_refl _, HF, HW3⟩
                        | false =>
                          have HF : Hid (b = true ↔ ∀ q, q < j + 1 → goodR X Y a i q) := Lib.hid (by refine HG.out.trans ⟨fun h q hq => ?_, fun h q hq => h q (by omega)⟩; rcases Nat.lt_or_ge q j with h1 | h1; exact h q h1; have e : q = j := (by omega); subst e; exact ⟨by rw [HR.out]; decide, fun _ _ _ => HOB.out⟩)
                          go_wp2_with fail
                          go_roundg (N - (j + 1))
                          case measure => omega
                          case rel => exact ⟨j + 1, b, rfl, by norm_cast, by omega, Nat.le_refl _, HF, HW3⟩
                  · go_wp2_with fail
                    refine wp_region_up w2.heap.size 28 [(true, 0), (true, 1), (true, 2), (true, 3), (true, 4), (true, 5), (true, 6), (true, 7), (true, 8), (true, 9), (true, 10), (true, 11), (true, 12), (true, 13), (true, 14), (true, 15), (true, 16), (true, 17), (true, 18), (true, 19), (true, 20), (true, 21), (true, 22), (true, 23), (true, 24), (true, 25), (true, 26), (true, 27)] (by kernel_rfl) (by kernel_rfl) (fun _ _ d _ _ h => by cases d <;> exact h) ?_
                    have hb : Below w2.heap.size w2 w2.drew := (Below.refl _ _).drew
                    iterate 28
                      refine wpS_takeL rfl rfl ?_
                      go_big_quiet_step (rfl)
                      refine wpQuiet_nil ?_
                    refine wpS_nil ?_
                    simp only [List.drop_succ_cons, List.drop_zero]
                    have HW3 := Lib.hid (HW2.out.trans (hb.mono HW2.out.size))
                    have HF : Hid (b = true ↔ ∀ q, q < j + 1 → goodR X Y a i q) := Lib.hid (by refine HG.out.trans ⟨fun h q hq => ?_, fun h q hq => h q (by omega)⟩; rcases Nat.lt_or_ge q j with h1 | h1; exact h q h1; have e : q = j := (by omega); subst e; exact ⟨by rw [HR.out]; decide, fun h => by rw [HR.out] at h; cases h⟩)
                    clear hb
                    go_wp2_with fail
                    go_roundg (N - (j + 1))
                    case measure => omega
                    case rel => exact ⟨j + 1, b, rfl, by norm_cast, by omega, Nat.le_refl _, HF, HW3⟩
                · have hjN : j = N := by omega
                  have HB2 : Hid (b = true ↔ i = z) := Lib.hid (by have h1 := HG.out; rw [hjN] at h1; exact h1.trans (HNX.out.1 i hilt hia))
                  cases b with
                  | true =>
                    have HN2 := Lib.hid (nxI_up (HB2.out.1 rfl))
                    go_wp2_with fail
                    go_roundg (N - (i + 1))
                    case measure => omega
                    case rel => exact ⟨i + 1, by rw [HN2.out], by norm_cast, by omega, Nat.le_refl _, HWj⟩
                  | false =>
                    have HN2 := Lib.hid (nxI_st (fun e => by have := HB2.out.2 e; cases this))
                    go_wp2_with fail
                    go_roundg (N - (i + 1))
                    case measure => omega
                    case rel => exact ⟨i + 1, by rw [HN2.out], by norm_cast, by omega, Nat.le_refl _, HWj⟩
          · have hiN : i = N := by omega
            have hnz : nxI z i = (z : Int) := by unfold nxI; rw [if_pos (by rw [hiN]; exact HNX.out.2.2)]
            rw [hnz]
            have hz0 : ¬ ((z : Int) < 0) := by omega
            have HST : Hid ((0 + 1 = n → z = 0) ∧ (0 < 0 + 1 → 0 + 1 < n → z ≠ 0) ∧ z = gH H ((0 + 1) % n)) := by
              refine Lib.hid ⟨fun h => ?_, fun _ h => ?_, HZ.out.symm⟩
              · rw [← HZ.out, h, Nat.mod_self]; exact HH.out.zero
              · rw [← HZ.out, Nat.mod_eq_of_lt h]; exact HH.out.nz _ (by omega) (by rw [HLN.out]; exact h)
            have HBB := BB.out.trans (HWi.out.mono hz1)
            have HNL2 := Lib.hid (NL3.out.of HWi.out)
            clear hnz
            go_wp2_with fail
            go_roundg (n - (0 + 1))
            case measure => omega
            case rel => exact ⟨0 + 1, ho2, hc2, z, rfl, rfl, by omega, Nat.le_refl _, HST.out.1, HST.out.2.1, Lib.hid HST.out.2.2, HNL2, HBB⟩
      · have hk1 : ¬ k = 0 := by omega
        have hk2 : ¬ a = 0 := han hk0 hlt
        have hk4 : ((k : Int) == 0) = false := by simp; omega
        have hk5 : ((a : Int) != 0) = true := by simp; omega
        have hk3 : (k : Int) ≤ (N : Int) := by omega
        clear hk0
        have hq1 : (H.take k).length < 100000 := by rw [List.length_take]; omega
        have hq2 : w.heap.size ≤ (wr.alloc (.cells #[.int .i64 (a : Nat)] 3)).heap.size := by simp; omega
        go_wp2_with (at_builtin; go_loud (refine wpList_append_nl rfl _ _ rfl w.heap.size (.slice ho k hc) (H.take k) a wr.heap.size rfl rfl (Blk.new wr _ _) (HNL.out.of (below_a1 _ _)) hq1 hq2 ?_))
        intro ho2 m2 hc2 V1 nl2 gr2
        have hva : (wr.alloc (.cells #[.int .i64 (a : Nat)] 3)).heap.size = wr.heap.size + 1 := by simp
        have hoy : ∀ g, (Value.slice ho k hc).ownBlock = some g → w.heap.size ≤ g := fun g hg => (HNL.out.own2 hg).1
        have BB : Hid (Below w.heap.size w V1) := Lib.hid (hb.trans ⟨gr2.os, gr2.tape, gr2.output, by have := gr2.size; omega, fun g hg => (gr2.block g (by omega) (fun e => by have := hoy g e.symm; omega)).trans ((below_a1 wr _).block g (by omega))⟩)
        have hm3 : m2 = k + 1 := by rw [nl2.cnt]; first | rfl | (have := HLN.out; simp; omega)
        have NL3 : Hid (NL V1 w.heap.size (.slice ho2 (k + 1) hc2) (H.take (k + 1))) := by
          rw [gH_take2 (by rw [HLN.out]; exact hlt), ← hm3]
          have e : gH H k = a := by rw [HA.out, Nat.mod_eq_of_lt hlt]
          rw [e]; exact Lib.hid nl2
        subst hm3
        have hz1 := BB.out.size
        clear hva hoy nl2 gr2 HNL hq1 hq2 hb
        obtain ⟨z, hz⟩ : ∃ z, gH H ((k + 1) % n) = z := ⟨_, rfl⟩
        have HNX : Hid ((∀ i, i < N → i ≠ a → ((∀ j, j < N → goodR X Y a i j) ↔ i = z)) ∧ z ≠ a ∧ z < N) := by
          have h1 := HH.out.nxt k (by rw [HLN.out]; exact hlt)
          have h2 := HH.out.ne k (by rw [HLN.out]; exact hlt)
          have e : gH H k = a := by rw [HA.out, Nat.mod_eq_of_lt hlt]
          rw [HLN.out, hz, e] at h1 h2
          refine Lib.hid ⟨h1, h2, ?_⟩
          rw [← hz]; exact HH.out.lt _ (by rw [HLN.out]; exact Nat.mod_lt _ (by omega))
        have HZ := Lib.hid hz
        clear hz
        obtain ⟨ax, hax⟩ : ∃ x, X a = x := ⟨_, rfl⟩
        obtain ⟨ay, hay⟩ : ∃ x, Y a = x := ⟨_, rfl⟩
        have HAP := Lib.hid (And.intro hax hay)
        clear hax hay
        go_wp2_with fail
        go_loopg [5, 6] N (fun gk s5 s6 wi => ∃ i : Nat, s5 = .int .i64 (nxI z i) ∧ s6 = .int .i64 (i : Nat) ∧ i ≤ N ∧ N - i ≤ gk ∧ Hid (Below V1.heap.size V1 wi))
        case atStart => exact ⟨0, by unfold nxI; rw [if_neg (by omega)], rfl, by omega, by omega, Lib.hid (Below.refl _ _)⟩
        case round =>
          obtain ⟨i, rfl, rfl, hi, hgi, HWi⟩ := hrel
          by_cases hilt : i < N
          · by_cases hia : i = a
            · subst hia
              have HN2 := Lib.hid (nxI_st (show i ≠ z from fun e => HNX.out.2.1 e.symm))
              go_wp2_with fail
              go_roundg (N - (i + 1))
              case measure => omega
              case rel => exact ⟨i + 1, by rw [HN2.out], by norm_cast, by omega, Nat.le_refl _, HWi⟩
            · have hia2 : ((i : Int) == (a : Int)) = false := by simp; omega
              obtain ⟨ix, hix⟩ : ∃ x, X i = x := ⟨_, rfl⟩
              obtain ⟨iy, hiy⟩ : ∃ x, Y i = x := ⟨_, rfl⟩
              have HI := Lib.hid (And.intro hix hiy)
              clear hix hiy
              go_wp2_with fail
              go_loopg [7, 8] N (fun gk s7 s8 wj => ∃ (j : Nat) (b : Bool), s7 = .bool b ∧ s8 = .int .i64 (j : Nat) ∧ j ≤ N ∧ N - j ≤ gk ∧ Hid (b = true ↔ ∀ q, q < j → goodR X Y a i q) ∧ Hid (Below V1.heap.size V1 wj))
              case atStart => exact ⟨0, true, rfl, rfl, by omega, by omega, Lib.hid ⟨fun _ q hq => by omega, fun _ => rfl⟩, HWi⟩
              case round =>
                obtain ⟨j, b, rfl, rfl, hj, hgj, HG, HWj⟩ := hrel
                by_cases hjlt : j < N
                · obtain ⟨r, hr⟩ : ∃ r, wy X Y a i j = r := ⟨_, rfl⟩
                  obtain ⟨cx, hcx⟩ : ∃ x, X j = x := ⟨_, rfl⟩
                  obtain ⟨cy, hcy⟩ : ∃ x, Y j = x := ⟨_, rfl⟩
                  have HC := Lib.hid (And.intro hcx hcy)
                  clear hcx hcy
                  have HR := Lib.hid hr
                  have hw : Hid (way ax ay ix iy cx cy = r) := by rw [← hr, ← HAP.out.1, ← HAP.out.2, ← HI.out.1, ← HI.out.2, ← HC.out.1, ← HC.out.2]; exact Lib.hid rfl
                  have hr3 : r = -1 ∨ r = 0 ∨ r = 1 := by rw [← hr]; exact wy_cases _ _ _ _ _
                  clear hr
                  have hbj := BB.out.trans (HWj.out.mono hz1)
                  obtain ⟨pa2, he2, hpt⟩ := (HO.out.of hbj).atP (by omega)
                  injection he2 with he2
                  rw [← he2] at hpt
                  have qa := hpt a haN
                  rw [HAP.out.1, HAP.out.2] at qa
                  have qa0 := fun u => (qa u).1
                  have qa1 := fun u => (qa u).2
                  have qi := hpt i hilt
                  rw [HI.out.1, HI.out.2] at qi
                  have qi0 := fun u => (qi u).1
                  have qi1 := fun u => (qi u).2
                  have qc := hpt j hjlt
                  rw [HC.out.1, HC.out.2] at qc
                  have qc0 := fun u => (qc u).1
                  have qc1 := fun u => (qc u).2
                  clear hpt he2 qa qi qc
                  go_wp2_with fail
                  refine wp_region_up wr.heap.size 12 [(true, 0), (true, 1), (true, 2), (true, 3), (true, 4), (true, 5), (true, 6), (true, 7), (true, 8), (true, 9), (true, 10), (true, 11)] (by kernel_rfl) (by kernel_rfl) (fun _ _ d _ _ h => by cases d <;> exact h) ?_
                  have hb : Below wr.heap.size wr wr.drew := (Below.refl _ _).drew
                  iterate 12
                    refine wpS_takeL rfl rfl ?_
                    go_big_quiet_step (rfl)
                    refine wpQuiet_nil ?_
                  refine wpS_nil ?_
                  simp only [List.drop_succ_cons, List.drop_zero]
                  go_wp2_with fail
                  refine (rWy_is ax ay ix iy cx cy r hw.out _).mono ?_
                  rintro e w2 ⟨rfl, hn⟩
                  have HW2 := Lib.hid ((HWj.out.trans (hb.mono HWj.out.size)).trans (hn.mono (HWj.out.trans (hb.mono HWj.out.size)).size))
                  clear hn hb hbj qa0 qa1 qi0 qi1 qc0 qc1
                  rcases hr3 with rfl | rfl | rfl
                  · go_wp2_with fail
                    refine wp_region_up w2.heap.size 28 [(true, 0), (true, 1), (true, 2), (true, 3), (true, 4), (true, 5), (true, 6), (true, 7), (true, 8), (true, 9), (true, 10), (true, 11), (true, 12), (true, 13), (true, 14), (true, 15), (true, 16), (true, 17), (true, 18), (true, 19), (true, 20), (true, 21), (true, 22), (true, 23), (true, 24), (true, 25), (true, 26), (true, 27)] (by kernel_rfl) (by kernel_rfl) (fun _ _ d _ _ h => by cases d <;> exact h) ?_
                    have hb : Below w2.heap.size w2 w2.drew := (Below.refl _ _).drew
                    iterate 28
                      refine wpS_takeL rfl rfl ?_
                      go_big_quiet_step (rfl)
                      refine wpQuiet_nil ?_
                    refine wpS_nil ?_
                    simp only [List.drop_succ_cons, List.drop_zero]
                    have HW3 := Lib.hid (HW2.out.trans (hb.mono HW2.out.size))
                    have HF : Hid (false = true ↔ ∀ q, q < j + 1 → goodR X Y a i q) := Lib.hid (by refine ⟨fun h => (by cases h), fun h => ?_⟩; have := (h j (by omega)).1; rw [HR.out] at this; exact absurd (by decide) this)
                    clear hb
                    go_wp2_with fail
                    go_roundg (N - (j + 1))
                    case measure => omega
                    case rel => exact ⟨j + 1, false, rfl, by norm_cast, by omega, Nat.le_refl _, HF, HW3⟩
                  · by_cases hja : j = a
                    · subst hja
                      go_wp2_with fail
                      refine wp_region_up w2.heap.size 28 [(true, 0), (true, 1), (true, 2), (true, 3), (true, 4), (true, 5), (true, 6), (true, 7), (true, 8), (true, 9), (true, 10), (true, 11), (true, 12), (true, 13), (true, 14), (true, 15), (true, 16), (true, 17), (true, 18), (true, 19), (true, 20), (true, 21), (true, 22), (true, 23), (true, 24), (true, 25), (true, 26), (true, 27)] (by kernel_rfl) (by kernel_rfl) (fun _ _ d _ _ h => by cases d <;> exact h) ?_
                      have hb : Below w2.heap.size w2 w2.drew := (Below.refl _ _).drew
                      iterate 28
                        refine wpS_takeL rfl rfl ?_
                        go_big_quiet_step (rfl)
                        refine wpQuiet_nil ?_
                      refine wpS_nil ?_
                      simp only [List.drop_succ_cons, List.drop_zero]
                      have HW3 := Lib.hid (HW2.out.trans (hb.mono HW2.out.size))
                      have HF : Hid (b = true ↔ ∀ q, q < j + 1 → goodR X Y j i q) := Lib.hid (by refine HG.out.trans ⟨fun h q hq => ?_, fun h q hq => h q (by omega)⟩; rcases Nat.lt_or_ge q j with h1 | h1; exact h q h1; have e : q = j := (by omega); subst e; exact ⟨by rw [HR.out]; decide, fun _ h2 => absurd rfl h2⟩)
                      clear hb
                      go_wp2_with fail
                      go_roundg (N - (j + 1))
                      case measure => omega
                      case rel => exact ⟨j + 1, b, rfl, by norm_cast, by omega, Nat.le_refl _, HF, HW3⟩
                    · by_cases hji : j = i
                      · subst hji
                        have hja2 : ((j : Int) != (a : Int)) = true := by simp; omega
                        go_wp2_with fail
                        refine wp_region_up w2.heap.size 28 [(true, 0), (true, 1), (true, 2), (true, 3), (true, 4), (true, 5), (true, 6), (true, 7), (true, 8), (true, 9), (true, 10), (true, 11), (true, 12), (true, 13), (true, 14), (true, 15), (true, 16), (true, 17), (true, 18), (true, 19), (true, 20), (true, 21), (true, 22), (true, 23), (true, 24), (true, 25), (true, 26), (true, 27)] (by kernel_rfl) (by kernel_rfl) (fun _ _ d _ _ h => by cases d <;> exact h) ?_
                        have hb : Below w2.heap.size w2 w2.drew := (Below.refl _ _).drew
                        iterate 28
                          refine wpS_takeL rfl rfl ?_
                          go_big_quiet_step (rfl)
                          refine wpQuiet_nil ?_
                        refine wpS_nil ?_
                        simp only [List.drop_succ_cons, List.drop_zero]
                        have HW3 := Lib.hid (HW2.out.trans (hb.mono HW2.out.size))
                        have HF : Hid (b = true ↔ ∀ q, q < j + 1 → goodR X Y a j q) := Lib.hid (by refine HG.out.trans ⟨fun h q hq => ?_, fun h q hq => h q (by omega)⟩; rcases Nat.lt_or_ge q j with h1 | h1; exact h q h1; have e : q = j := (by omega); subst e; exact ⟨by rw [HR.out]; decide, fun _ _ h2 => absurd rfl h2⟩)
                        clear hb
                        go_wp2_with fail
                        go_roundg (N - (j + 1))
                        case measure => omega
                        case rel => exact ⟨j + 1, b, rfl, by norm_cast, by omega, Nat.le_refl _, HF, HW3⟩
                      · have hja2 : ((j : Int) != (a : Int)) = true := by simp; omega
                        have hji2 : ((j : Int) != (i : Int)) = true := by simp; omega
                        obtain ⟨o, ho_⟩ : ∃ o, onB ax ay ix iy cx cy = o := ⟨_, rfl⟩
                        have HON := Lib.hid ho_
                        clear ho_
                        have hb2 := BB.out.trans (HW2.out.mono hz1)
                        obtain ⟨pa2, he2, hpt⟩ := (HO.out.of hb2).atP (by omega)
                        injection he2 with he2
                        rw [← he2] at hpt
                        have qa := hpt a haN
                        rw [HAP.out.1, HAP.out.2] at qa
                        have qa0 := fun u => (qa u).1
                        have qa1 := fun u => (qa u).2
                        have qi := hpt i hilt
                        rw [HI.out.1, HI.out.2] at qi
                        have qi0 := fun u => (qi u).1
                        have qi1 := fun u => (qi u).2
                        have qc := hpt j hjlt
                        rw [HC.out.1, HC.out.2] at qc
                        have qc0 := fun u => (qc u).1
                        have qc1 := fun u => (qc u).2
                        clear hpt he2 qa qi qc
                        go_wp2_with fail
                        refine wp_region_up w2.heap.size 28 [(true, 0), (true, 1), (true, 2), (true, 3), (true, 4), (true, 5), (true, 6), (true, 7), (true, 8), (true, 9), (true, 10), (true, 11), (true, 12), (true, 13), (true, 14), (true, 15), (true, 16), (true, 17), (true, 18), (true, 19), (true, 20), (true, 21), (true, 22), (true, 23), (true, 24), (true, 25), (true, 26), (true, 27)] (by kernel_rfl) (by kernel_rfl) (fun _ _ d _ _ h => by cases d <;> exact h) ?_
                        have hb : Below w2.heap.size w2 w2.drew := (Below.refl _ _).drew
                        iterate 28
                          refine wpS_takeL rfl rfl ?_
                          go_big_quiet_step (rfl)
                          refine wpQuiet_nil ?_
                        refine wpS_nil ?_
                        simp only [List.drop_succ_cons, List.drop_zero]
                        go_wp2_with fail
                        refine (rOnB_is ax ay ix iy cx cy o HON.out _).mono ?_
                        rintro e w3 ⟨rfl, hn⟩
                        have HW3 := Lib.hid ((HW2.out.trans (hb.mono HW2.out.size)).trans (hn.mono (HW2.out.trans (hb.mono HW2.out.size)).size))
                        have HOB := Lib.hid (show onB (X a) (Y a) (X i) (Y i) (X j) (Y j) = o by rw [HAP.out.1, HAP.out.2, HI.out.1, HI.out.2, HC.out.1, HC.out.2]; exact HON.out)
                        clear hn hb hb2 qa0 qa1 qi0 qi1 qc0 qc1
                        cases o with
                        | true =>
                          have HF : Hid (false = true ↔ ∀ q, q < j + 1 → goodR X Y a i q) := Lib.hid (by refine ⟨fun h => (by cases h), fun h => ?_⟩; have := (h j (by omega)).2 HR.out hja hji; rw [HOB.out] at this; cases this)
                          go_wp2_with fail
                          go_roundg (N - (j + 1))
                          case measure => omega
                          case rel => exact ⟨j + 1, false, rfl, by norm_cast, by omega, Nat.le_refl _, HF, HW3⟩
                        | false =>
                          have HF : Hid (b = true ↔ ∀ q, q < j + 1 → goodR X Y a i q) := Lib.hid (by refine HG.out.trans ⟨fun h q hq => ?_, fun h q hq => h q (by omega)⟩; rcases Nat.lt_or_ge q j with h1 | h1; exact h q h1; have e : q = j := (by omega); subst e; exact ⟨by rw [HR.out]; decide, fun _ _ _ => HOB.out⟩)
                          go_wp2_with fail
                          go_roundg (N - (j + 1))
                          case measure => omega
                          case rel => exact ⟨j + 1, b, rfl, by norm_cast, by omega, Nat.le_refl _, HF, HW3⟩
                  · go_wp2_with fail
                    refine wp_region_up w2.heap.size 28 [(true, 0), (true, 1), (true, 2), (true, 3), (true, 4), (true, 5), (true, 6), (true, 7), (true, 8), (true, 9), (true, 10), (true, 11), (true, 12), (true, 13), (true, 14), (true, 15), (true, 16), (true, 17), (true, 18), (true, 19), (true, 20), (true, 21), (true, 22), (true, 23), (true, 24), (true, 25), (true, 26), (true, 27)] (by kernel_rfl) (by kernel_rfl) (fun _ _ d _ _ h => by cases d <;> exact h) ?_
                    have hb : Below w2.heap.size w2 w2.drew := (Below.refl _ _).drew
                    iterate 28
                      refine wpS_takeL rfl rfl ?_
                      go_big_quiet_step (rfl)
                      refine wpQuiet_nil ?_
                    refine wpS_nil ?_
                    simp only [List.drop_succ_cons, List.drop_zero]
                    have HW3 := Lib.hid (HW2.out.trans (hb.mono HW2.out.size))
                    have HF : Hid (b = true ↔ ∀ q, q < j + 1 → goodR X Y a i q) := Lib.hid (by refine HG.out.trans ⟨fun h q hq => ?_, fun h q hq => h q (by omega)⟩; rcases Nat.lt_or_ge q j with h1 | h1; exact h q h1; have e : q = j := (by omega); subst e; exact ⟨by rw [HR.out]; decide, fun h => by rw [HR.out] at h; cases h⟩)
                    clear hb
                    go_wp2_with fail
                    go_roundg (N - (j + 1))
                    case measure => omega
                    case rel => exact ⟨j + 1, b, rfl, by norm_cast, by omega, Nat.le_refl _, HF, HW3⟩
                · have hjN : j = N := by omega
                  have HB2 : Hid (b = true ↔ i = z) := Lib.hid (by have h1 := HG.out; rw [hjN] at h1; exact h1.trans (HNX.out.1 i hilt hia))
                  cases b with
                  | true =>
                    have HN2 := Lib.hid (nxI_up (HB2.out.1 rfl))
                    go_wp2_with fail
                    go_roundg (N - (i + 1))
                    case measure => omega
                    case rel => exact ⟨i + 1, by rw [HN2.out], by norm_cast, by omega, Nat.le_refl _, HWj⟩
                  | false =>
                    have HN2 := Lib.hid (nxI_st (fun e => by have := HB2.out.2 e; cases this))
                    go_wp2_with fail
                    go_roundg (N - (i + 1))
                    case measure => omega
                    case rel => exact ⟨i + 1, by rw [HN2.out], by norm_cast, by omega, Nat.le_refl _, HWj⟩
          · have hiN : i = N := by omega
            have hnz : nxI z i = (z : Int) := by unfold nxI; rw [if_pos (by rw [hiN]; exact HNX.out.2.2)]
            rw [hnz]
            have hz0 : ¬ ((z : Int) < 0) := by omega
            have HST : Hid ((k + 1 = n → z = 0) ∧ (0 < k + 1 → k + 1 < n → z ≠ 0) ∧ z = gH H ((k + 1) % n)) := by
              refine Lib.hid ⟨fun h => ?_, fun _ h => ?_, HZ.out.symm⟩
              · rw [← HZ.out, h, Nat.mod_self]; exact HH.out.zero
              · rw [← HZ.out, Nat.mod_eq_of_lt h]; exact HH.out.nz _ (by omega) (by rw [HLN.out]; exact h)
            have HBB := BB.out.trans (HWi.out.mono hz1)
            have HNL2 := Lib.hid (NL3.out.of HWi.out)
            clear hnz
            go_wp2_with fail
            go_roundg (n - (k + 1))
            case measure => omega
            case rel => exact ⟨k + 1, ho2, hc2, z, rfl, rfl, by omega, Nat.le_refl _, HST.out.1, HST.out.2.1, Lib.hid HST.out.2.2, HNL2, HBB⟩
    · have hkn : k = n := by omega
      have haz := ha0 hkn
      subst haz
      subst hkn
      have hne : ((k : Int) == 0) = false := by simp; omega
      go_wp2
      go_ret
      refine ⟨_, rfl, ?_, hb⟩
      have := HNL.out
      rw [List.take_of_length_le (by rw [HLN.out]; exact Nat.le_refl _)] at this
      exact this
end Go.Proofs.Ytdlpfiiakmhnlaa

namespace Go.Proofs.Ytdlpfiiakmhnlaa
open Go.RowKit
attribute [local go_sem] undef

set_option maxRecDepth 100000 in
set_option maxHeartbeats 4000000 in
theorem TriHulls_any (ao : Option Addr) (N cap : Nat) (X Y : Nat → Int) (w : World) (h : Pts w ao N cap X Y) :
    Calls Try.prog 3 #[.slice ao N cap] w fun e w' => e = .returned (.bool true) ∧ Below w.heap.size w w' := by
  have HO := Lib.hid h
  have hcl := h.capl
  have hcb := h.capb
  clear h
  go_enter Try.func3, Try.ntmps3
  by_cases h24 : 24 < N
  · have h24' : (24 : Int) < (N : Int) := by omega
    go_wp2_with fail
    refine (awake_is w).mono ?_
    rintro e V ⟨rfl, hb⟩
    go_wp2
    go_ret
    exact ⟨rfl, hb⟩
  · have h24' : ¬ (24 : Int) < (N : Int) := by omega
    go_wp2_with fail
    refine (rising_is ao N cap X Y w HO.out (by omega)).mono ?_
    rintro e V ⟨b, rfl, hr, hb⟩
    rw [rsP_ris] at hr
    have HR := Lib.hid hr
    have BV := Lib.hid hb
    clear hr hb
    cases b with
    | false =>
      go_wp2_with fail
      refine (awake_is V).mono ?_
      rintro e V2 ⟨rfl, hb⟩
      have B2 := BV.out.trans (hb.mono BV.out.size)
      clear hb
      go_wp2
      go_ret
      exact ⟨rfl, B2⟩
    | true =>
      obtain ⟨hg, hri⟩ := HR.out.1 rfl
      have HG := Lib.hid hg
      have HRI := Lib.hid hri
      clear hg hri
      go_wp2_with fail
      refine (Build_tri ao N cap X Y V (HO.out.of BV.out) (by omega) HG.out HRI.out).mono ?_
      rintro e V2 ⟨t, D, q, T, O, rfl, hT, hS, _, hb⟩
      have HT := Lib.hid hT
      have HS := Lib.hid hS
      have B2 := Lib.hid (BV.out.trans (hb.mono BV.out.size))
      clear hT hS hb BV
      rcases Nat.lt_or_ge q N with hq | hq
      · obtain ⟨h, z, _, _, _, B, R, hz, _, hH, hRC⟩ := HT.out.some hq
        have hTn : ((T.length : Nat) : Int) ≠ 0 := by
          intro e
          have e0 : T.length = 0 := by omega
          have := List.eq_nil_of_length_eq_zero e0
          obtain ⟨u, hu, _⟩ := R.way z hz
          rw [this] at hu; cases hu
        have HH := Lib.hid hH
        have HC := Lib.hid hRC
        obtain ⟨H, hHe⟩ : ∃ H, rotH h z = H := ⟨_, rfl⟩
        rw [hHe] at HH HC
        clear hHe B R hz hH hRC
        go_wp2_with fail
        refine (Hull_is t D N X Y O _ H HH.out hTn V2 HS.out).mono ?_
        rintro e V3 ⟨v, rfl, hv, hb⟩
        have NLv := Lib.hid hv
        have B3 := Lib.hid (B2.out.trans (hb.mono B2.out.size))
        clear hv hb hTn HS
        go_wp2_with fail
        refine (refs_is ao N cap X Y V3 (HO.out.of B3.out) (by omega)).mono ?_
        rintro e V4 ⟨rv, rfl, hrow, hb⟩
        obtain ⟨ao4, cap4, rfl, P4⟩ := Pts.ofRow hrow
        have PP4 := Lib.hid P4
        have NL4 := Lib.hid (NLv.out.of hb)
        have B4 := Lib.hid (B3.out.trans (hb.mono B3.out.size))
        clear hrow P4 hb NLv B3
        go_wp2_with fail
        refine (Flat_is ao4 N cap4 X Y V4 PP4.out (by omega)).mono ?_
        rintro e V5 ⟨b, rfl, hfl, hb⟩
        have hbf : b = false := by
          cases b with
          | false => rfl
          | true => exact absurd (hfl.1 rfl q (by have := HT.out.ln.1; omega) hq) (HT.out.ln.2.2.2 hq)
        subst hbf
        have NL5 := Lib.hid (NL4.out.of hb)
        have B5 := Lib.hid (B4.out.trans (hb.mono B4.out.size))
        clear hfl hb NL4 B4 PP4
        go_wp2_with fail
        refine (refs_is ao N cap X Y V5 (HO.out.of B5.out) (by omega)).mono ?_
        rintro e V6 ⟨rv, rfl, hrow, hb⟩
        obtain ⟨ao6, cap6, rfl, P6⟩ := Pts.ofRow hrow
        have PP6 := Lib.hid P6
        have NL6 := Lib.hid (NL5.out.of hb)
        have B6 := Lib.hid (B5.out.trans (hb.mono B5.out.size))
        clear hrow P6 hb NL5 B5
        go_wp2_with fail
        refine (rHull_is ao6 N cap6 X Y V6 PP6.out (by omega) H HC.out).mono ?_
        rintro e V7 ⟨v2, rfl, hv2, hb⟩
        have NL7 := Lib.hid (NL6.out.of hb)
        have B7 := Lib.hid (B6.out.trans (hb.mono B6.out.size))
        obtain ⟨a1, k1, e1, hc1, hc1b, hce1⟩ := NL7.out.val
        obtain ⟨a2, k2, e2, hc2, hc2b, hce2⟩ := hv2.val
        have hpos := HC.out.pos
        have hln := HC.out.len
        subst e1
        subst e2
        obtain ⟨n, hn⟩ : ∃ n, H.length = n := ⟨_, rfl⟩
        have HLN := Lib.hid hn
        rw [hn] at hpos hln hc1 hc2 hce1 hce2
        obtain ⟨g1, rfl, _, hg1, f1⟩ := hce1 hpos
        obtain ⟨g2, rfl, _, hg2, f2⟩ := hce2 hpos
        have F1 := Lib.hid f1
        have F2 := Lib.hid f2
        clear hn f1 f2 hce1 hce2 hv2 hb NL6 B6 PP6 NL7
        rw [HLN.out]
        go_wp2_with fail
        go_loopg [49] n (fun gk s49 wr => ∃ k : Nat, s49 = .int .i64 (k : Nat) ∧ k ≤ n ∧ n - k ≤ gk ∧ Hid (Below V7.heap.size V7 wr))
        case atStart => exact ⟨0, rfl, by omega, by omega, Lib.hid (Below.refl _ _)⟩
        case round =>
          obtain ⟨k, rfl, hk, hgk, HW⟩ := hrel
          by_cases hlt : k < n
          · have hx : H[k]? = some (gH H k) := gH_at (by rw [HLN.out]; exact hlt)
            have q1 : ∀ u : UpTo wr.heap.size wr, u.w.cell? ⟨g1, k, none⟩ = some (.int .i64 (gH H k : Nat)) := fun u => by
              have h1 := HW.out.trans (u.2.mono HW.out.size)
              exact (h1.cell (p := ⟨g1, k, none⟩) hg1).trans (F1.out k _ hx)
            have q2 : ∀ u : UpTo wr.heap.size wr, u.w.cell? ⟨g2, k, none⟩ = some (.int .i64 (gH H k : Nat)) := fun u => by
              have h1 := HW.out.trans (u.2.mono HW.out.size)
              exact (h1.cell (p := ⟨g2, k, none⟩) hg2).trans (F2.out k _ hx)
            clear hx
            go_wp2_with fail
            refine wp_region_up wr.heap.size 8 [(true, 0), (true, 1), (true, 2), (true, 3), (true, 4), (true, 5), (true, 6), (true, 7)] (by kernel_rfl) (by kernel_rfl) (fun _ _ d _ _ h => by cases d <;> exact h) ?_
            have hb : Below wr.heap.size wr wr.drew := (Below.refl _ _).drew
            iterate 8
              refine wpS_takeL rfl rfl ?_
              go_big_quiet_step (rfl)
              refine wpQuiet_nil ?_
            refine wpS_nil ?_
            simp only [List.drop_succ_cons, List.drop_zero]
            have HW3 := Lib.hid (HW.out.trans (hb.mono HW.out.size))
            clear hb
            go_wp2_with fail
            go_roundg (n - (k + 1))
            case measure => omega
            case rel => exact ⟨k + 1, by norm_cast, by omega, Nat.le_refl _, HW3⟩
          · have HBB := B7.out.trans (HW.out.mono B7.out.size)
            go_wp2_with fail
            refine (awake_is wr).mono ?_
            rintro e V8 ⟨rfl, hb⟩
            have B8 := HBB.trans (hb.mono HBB.size)
            clear hb HBB
            go_wp2
            go_ret
            exact ⟨rfl, B8⟩
      · have hqe : q = N := by have := HT.out.ln.2.1; omega
        obtain rfl := HT.out.none hqe
        go_wp2_with fail
        refine (Hull_none t D N X Y O V2 HS.out).mono ?_
        rintro e V3 ⟨v, rfl, hv, hb⟩
        obtain ⟨a1, k1, e1, _⟩ := hv.val
        subst e1
        have B3 := Lib.hid (B2.out.trans (hb.mono B2.out.size))
        clear hv hb HS
        go_wp2_with fail
        refine (refs_is ao N cap X Y V3 (HO.out.of B3.out) (by omega)).mono ?_
        rintro e V4 ⟨rv, rfl, hrow, hb⟩
        obtain ⟨ao4, cap4, rfl, P4⟩ := Pts.ofRow hrow
        have PP4 := Lib.hid P4
        have B4 := Lib.hid (B3.out.trans (hb.mono B3.out.size))
        clear hrow P4 hb B3
        go_wp2_with fail
        refine (Flat_is ao4 N cap4 X Y V4 PP4.out (by omega)).mono ?_
        rintro e V5 ⟨b, rfl, hfl, hb⟩
        obtain rfl : b = true := hfl.2 fun i h1 h2 => HT.out.ln.2.2.1 i h1 (by omega)
        have B5 := Lib.hid (B4.out.trans (hb.mono B4.out.size))
        clear hfl hb B4 PP4
        go_wp2_with fail
        refine (awake_is V5).mono ?_
        rintro e V8 ⟨rfl, hb⟩
        have B8 := B5.out.trans (hb.mono B5.out.size)
        clear hb
        go_wp2
        go_ret
        exact ⟨rfl, B8⟩
end Go.Proofs.Ytdlpfiiakmhnlaa

namespace Go.Proofs.Ytdlpfiiakmhnlaa
open Go.ChangeShapes Go.WideShapes Go.ChangeAt Go.RowKit

theorem blk_add (a : Addr) (n : Nat) : (a.add n).block = a.block := by unfold Addr.add; split <;> rfl
section
variable {H : Type} {enc : TypeId × Value → H} {w : World} {base : Nat} {held : Bool}
set_option maxRecDepth 100000 in
theorem open_pts {r : Reach} {b0 : Nat} {v : Value} {d : DataW H} {p : List MemPlace} (hv : Value.okWide Try.prog w r b0 22 v) (h : DataW.Trod enc Try.prog w base (fun _ => true) held 22 v d p) :
    ∃ ao n cap X Y, v = .slice ao n cap ∧ Pts w ao n cap X Y := by
  obtain ⟨ao, n, cap, rfl⟩ := okWide_slice Try.underlying22 hv
  obtain ⟨fuel, hf⟩ := h
  have hC : Try.prog.cellsOf 41 = 2 := by kernel_rfl
  have hC1 : Try.prog.cellsOf 3 = 1 := by kernel_rfl
  rcases Go.Deep.open_slice_pairs Try.underlying22 Try.underlying41 hC rfl rfl hC1 hC1 hf with ⟨hc, hx⟩ | ⟨a, len, c2, m, k, V0, V1, D0, D1, P0, P1, hc, _, hl, hm, hmm, hx, hall⟩
  · obtain ⟨rfl, rfl, rfl⟩ : ao = none ∧ n = 0 ∧ cap = 0 := by simpa [Value.cells] using hc
    exact ⟨none, 0, 0, fun _ => 0, fun _ => 0, rfl, fun h => absurd h (by omega), Nat.le_refl _, by omega⟩
  · obtain ⟨rfl, rfl, rfl⟩ : ao = some a ∧ n = len ∧ cap = c2 := by simpa [Value.cells] using hc
    have hmc : m = cap := by rw [hmm]; rfl
    have key : ∀ i, i < n → ∃ y : Int × Int, V0 i = .int .i64 y.1 ∧ V1 i = .int .i64 y.2 := by
      intro i hi
      obtain ⟨_, _, t0, t1⟩ := hall i (by omega)
      obtain ⟨a0, e0, _, g0⟩ := DataW.trod_int Try.underlying3 t0
      obtain ⟨a1, e1, _, g1⟩ := DataW.trod_int Try.underlying3 t1
      exact ⟨(a0, a1), by simpa using e0, by simpa using e1⟩
    refine ⟨some a, n, cap, fun i => if h : i < n then (key i h).choose.1 else 0, fun i => if h : i < n then (key i h).choose.2 else 0, rfl, fun h0 => ⟨a, rfl, ?_, fun i hi => ?_⟩, hl, hm⟩
    · have := (hall 0 (by omega)).1
      have := World.block_lt_of_cell? _ _ this
      rwa [blk_add] at this
    · have e0 := (hall i (by omega)).1
      have e1 := (hall i (by omega)).2.1
      rw [(key i hi).choose_spec.1] at e0
      rw [(key i hi).choose_spec.2] at e1
      simp only [dif_pos hi]
      exact ⟨e0, by rw [Go.Deep.add_add]; exact e1⟩
end
end Go.Proofs.Ytdlpfiiakmhnlaa

namespace Go.Proofs.Ytdlpfiiakmhnlaa
open Go.ChangeShapes Go.WideShapes Go.ChangeAt Go.RowKit

set_option maxRecDepth 100000 in
set_option maxHeartbeats 1000000 in
theorem triHulls_lifted (os : Os) (started : os.Started) (H : Type) (enc : TypeId × Value → H) :
    ReturnsInHanded {} Try.checked os 3 .any (Rows.triHullsSpec.pre6 enc Try.prog Try.f3 Rows.triHullsRow.domain false) (Rows.triHullsSpec.post enc Try.prog Try.f3 false true false false) := by
  refine returnsInHanded_of_change (C := Try.checked) own started (by kernel_rfl) Try.func3
    (ChangeSpec.witness6 (enc := enc) (C := Try.checked) false ⟨#[], #[.slice none 0 0], []⟩ 8 (by kernel_rfl) (by kernel_rfl) (by kernel_rfl) (by kernel_rfl)) ?_
  intro W base args ds gs before hval0 hW hcnd _
  have hval : ∀ (j : Nat) t v, Try.f3.params[j]? = some t → args[j]? = some v → Value.okWide Try.prog W .any base t v := hval0
  have hW' := hW
  obtain ⟨p, q, hA0, hV, rfl, hfz, hnd⟩ := hW
  have hA : DataW.TrodAll enc Try.prog W 0 (fun _ => true) true Try.f3.params.toList args.toList ds p := hA0
  rw [Try.params3] at hA hval
  obtain ⟨v0, vs0, d0, ds0, p0, q0, hargs, rfl, rfl, h0, r0⟩ := trodAll_cons hA
  obtain ⟨rfl, rfl, rfl⟩ := trodAll_nil r0
  obtain rfl : args = #[v0] := by cases args; simp_all
  obtain ⟨rfl, rfl⟩ := trodVars_none hV
  have k0 := h0
  have lt0 : ∀ x ∈ p0, x.block < W.heap.size := by obtain ⟨m, hm⟩ := k0; exact DataW.trod_lt m _ _ _ hm
  obtain ⟨ao0, n0, cap0, X0, Y0, rfl, io0⟩ := open_pts (hval 0 22 v0 rfl rfl) h0
  clear hA0 hval0
  refine (TriHulls_any ao0 n0 cap0 X0 Y0 W io0).mono fun e W' ⟨he, bel⟩ => ?_
  subst he
  exact ⟨_, rfl, _, _, _, [], _, [], hW', trodAll_mk1 (shut_bool Try.underlying4 _), (trodAll_cons_mk (Below.trod laidOut (by kernel_rfl) (of_decide_eq_true (by kernel_rfl)) k0 bel lt0) trodAll_mk0), rfl, bel.frame _, fun h => by cases h⟩

theorem triHulls_holds : Rows.TriHullsSaid :=
  OpenClaim.holds_of_wide 3 Try.f3 rfl rfl rfl rfl rfl rfl rfl ⟨rfl, rfl, rfl, rfl, rfl⟩ rfl rfl rfl rfl rfl (by kernel_rfl) Try.func3 (by kernel_rfl)
    (of_decide_eq_true (by kernel_rfl)) (by unfold Func.isWrapper; rw [if_neg (by decide +kernel)]; exact ⟨rfl, rfl⟩)
    (fun os started H enc _ => triHulls_lifted os started H enc)
#print axioms triHulls_holds
end Go.Proofs.Ytdlpfiiakmhnlaa

