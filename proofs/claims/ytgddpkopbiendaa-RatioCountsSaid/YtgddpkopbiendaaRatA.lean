/- The walks of package ratio's Add and Mul. Conditions: the numbers are numbers of 256 bits. -/
import Derived.Test.YtgddpkopbiendaaRatO
namespace Go.Proofs.Ytgddpkopbiendaa
open Go.RowKit

set_option maxRecDepth 100000 in
set_option maxHeartbeats 1000000 in
theorem RatAdd_go (n d m e : Int) (w : World) (i2 : InI d) (i4 : InI e) (o o3 o4 : Bool) (p q s v : Int) (ip : InI p) (iq : InI q) (ho3 : okI (p + q) = o3) (hs : (bif o3 then p + q else 0) = s) (ho4 : okI (d * e) = o4) (hv : (bif o4 then d * e else 0) = v)
    (hT : ∀ w, Calls Try.prog 91 #[rI n d, rI m e] w fun e' w' => e' = .returned (.tuple #[wI p, wI q, .bool o]) ∧ Below w.heap.size w w') :
    Calls Try.prog 58 #[rI n d, rI m e] w fun e' w' => e' = .returned (.tuple #[rI (bif o && o3 && o4 then s else 0) (bif o && o3 && o4 then v else 0), .bool (o && o3 && o4)]) ∧ Below w.heap.size w w' := by
  have HT := Lib.hid hT
  have O3 := Lib.hid ho3
  have O4 := Lib.hid ho4
  have HS := Lib.hid hs
  have HV := Lib.hid hv
  clear hT ho3 ho4 hs hv
  go_enter Try.func58, Try.ntmps58
  go_wp2_with fail
  refine calls_w ?_
  intro W hW
  have kr : RVar W w.heap.size n d := by rw [hW]; exact ((Blk.new _ _ _).alloc _).alloc _
  have ks : RVar W (w.heap.size + 1) m e := by rw [hW]; exact (Blk.new1 _ _ _ _).alloc _
  have k0 : RVar W (w.heap.size + 1 + 1) 0 0 := by rw [hW]; exact Blk.new2 _ _ _ _ _
  have hb0 : Below w.heap.size w W := by rw [hW]; exact below_a3 _ _ _ _
  clear hW
  refine (HT.out _).mono ?_
  rintro e u1 ⟨rfl, hn⟩
  replace kr := kr.of hn
  replace ks := ks.of hn
  replace k0 := k0.of hn
  replace hb0 := hb0.trans (hn.mono hb0.size)
  clear hn 
  go_wp2_with fail
  refine calls_w ?_
  intro V1 hV
  have hv : Below u1.heap.size u1 V1 := by rw [hV]; exact below_a2 _ _ _
  replace kr := kr.of hv
  replace ks := ks.of hv
  replace k0 := k0.of hv
  replace hb0 := hb0.trans (hv.mono hb0.size)
  have kp : Var V1 u1.heap.size p := by rw [hV]; exact (Blk.new _ _ _).alloc _
  have kq : Var V1 (u1.heap.size + 1) q := by rw [hV]; exact Blk.new1 _ _ _ _
  clear hV hv
  refine (Add_is p q o3 O3.out s HS.out _ ip iq).mono ?_
  rintro e u2 ⟨rfl, hn⟩
  replace kr := kr.of hn
  replace ks := ks.of hn
  replace k0 := k0.of hn
  replace kp := kp.of hn
  replace kq := kq.of hn
  replace hb0 := hb0.trans (hn.mono hb0.size)
  clear hn 
  clear kp kq
  have cr := RVar.c kr
  have cs := RVar.c ks
  have lr := kr.lt
  have ls := ks.lt
  have ls2 : w.heap.size < u2.heap.size := by omega
  go_wp2_with fail
  refine calls_w ?_
  intro V2 hV
  have hv : Below u2.heap.size u2 V2 := by rw [hV]; exact below_a1 _ _
  replace kr := kr.of hv
  replace ks := ks.of hv
  replace k0 := k0.of hv
  replace hb0 := hb0.trans (hv.mono hb0.size)
  have kz : Var V2 u2.heap.size s := by rw [hV]; exact Blk.new _ _ _
  clear hV hv
  clear cr cs lr ls ls2
  refine (Mul_is d e o4 O4.out v HV.out _ i2 i4).mono ?_
  rintro e u3 ⟨rfl, hn⟩
  replace kr := kr.of hn
  replace ks := ks.of hn
  replace k0 := k0.of hn
  replace kz := kz.of hn
  replace hb0 := hb0.trans (hn.mono hb0.size)
  clear hn 
  have hne : u2.heap.size < u3.heap.size := kz.lt
  have hcase : o = false ∨ (o = true ∧ o3 = false) ∨ (o = true ∧ o3 = true ∧ o4 = false) ∨ (o = true ∧ o3 = true ∧ o4 = true) := by
    cases o <;> cases o3 <;> cases o4 <;> simp
  have l0 := k0.lt
  have l00 : w.heap.size + 1 < u3.heap.size := by omega
  have h0 : Below u3.heap.size u3 (u3.alloc (.cells (wC v) 24)) := below_a1 _ _
  clear kr ks
  rcases hcase with rfl | ⟨rfl, rfl⟩ | ⟨rfl, rfl, rfl⟩ | ⟨rfl, rfl, rfl⟩
  · skip
    have c := RVar.c k0
    have f := RVar.f k0
    have K0 := Lib.hid k0
    clear k0
    go_wp2
    refine post_world ?_
    intro Wf hWf
    have kf : RVar Wf (w.heap.size + 1 + 1) (0) (0) := by rw [hWf]; exact (put8 K0.out (0) (0)).alloc _
    have hbf : Below w.heap.size w Wf := by rw [hWf]; exact (below_set8 hb0 (by omega) (0) (0)).alloc (by simp; exact hb0.size) _
    have c := RVar.c kf
    clear hWf
    simp [bodyPost, results, Try.results58, go_sem, c]
    exact hbf
  · skip
    have c := RVar.c k0
    have f := RVar.f k0
    have K0 := Lib.hid k0
    clear k0
    go_wp2
    refine post_world ?_
    intro Wf hWf
    have kf : RVar Wf (w.heap.size + 1 + 1) (0) (0) := by rw [hWf]; exact (put8 K0.out (0) (0)).alloc _
    have hbf : Below w.heap.size w Wf := by rw [hWf]; exact (below_set8 hb0 (by omega) (0) (0)).alloc (by simp; exact hb0.size) _
    have c := RVar.c kf
    clear hWf
    simp [bodyPost, results, Try.results58, go_sem, c]
    exact hbf
  · skip
    have c := RVar.c k0
    have f := RVar.f k0
    have K0 := Lib.hid k0
    clear k0
    go_wp2
    refine post_world ?_
    intro Wf hWf
    have kf : RVar Wf (w.heap.size + 1 + 1) (0) (0) := by rw [hWf]; exact (put8 K0.out (0) (0)).alloc _
    have hbf : Below w.heap.size w Wf := by rw [hWf]; exact (below_set8 hb0 (by omega) (0) (0)).alloc (by simp; exact hb0.size) _
    have c := RVar.c kf
    clear hWf
    simp [bodyPost, results, Try.results58, go_sem, c]
    exact hbf
  · skip
    have cz := Var.c kz
    have lz := kz.lt
    have c := RVar.c k0
    have f := RVar.f k0
    have K0 := Lib.hid k0
    clear k0
    go_wp2
    refine post_world ?_
    intro Wf hWf
    have kf : RVar Wf (w.heap.size + 1 + 1) (s) (v) := by rw [hWf]; exact (put8 K0.out (s) (v)).alloc _
    have hbf : Below w.heap.size w Wf := by rw [hWf]; exact (below_set8 hb0 (by omega) (s) (v)).alloc (by simp; exact hb0.size) _
    have c := RVar.c kf
    clear hWf
    simp [bodyPost, results, Try.results58, go_sem, c]
    exact hbf

set_option maxRecDepth 100000 in
set_option maxHeartbeats 1000000 in
theorem RatMul_go (n d m e : Int) (w : World) (i1 : InI n) (i2 : InI d) (i3 : InI m) (i4 : InI e) (o5 o4 r1 r2 : Bool) (s v : Int) (ho5 : okI (n * m) = o5) (hs : (bif o5 then n * m else 0) = s) (ho4 : okI (d * e) = o4) (hv : (bif o4 then d * e else 0) = v) (hr1 : decide (0 < d) = r1) (hr2 : decide (0 < e) = r2) :
    Calls Try.prog 59 #[rI n d, rI m e] w fun e' w' => e' = .returned (.tuple #[rI (bif o5 && o4 && r1 && r2 then s else 0) (bif o5 && o4 && r1 && r2 then v else 0), .bool (o5 && o4 && r1 && r2)]) ∧ Below w.heap.size w w' := by
  have O5 := Lib.hid ho5
  have O4 := Lib.hid ho4
  have HS := Lib.hid hs
  have HV := Lib.hid hv
  have R1 := Lib.hid hr1
  have R2 := Lib.hid hr2
  clear ho5 ho4 hs hv hr1 hr2
  go_enter Try.func59, Try.ntmps59
  go_wp2_with fail
  refine calls_w ?_
  intro W hW
  have kr : RVar W w.heap.size n d := by rw [hW]; exact ((Blk.new _ _ _).alloc _).alloc _
  have ks : RVar W (w.heap.size + 1) m e := by rw [hW]; exact (Blk.new1 _ _ _ _).alloc _
  have k0 : RVar W (w.heap.size + 1 + 1) 0 0 := by rw [hW]; exact Blk.new2 _ _ _ _ _
  have hb0 : Below w.heap.size w W := by rw [hW]; exact below_a3 _ _ _ _
  clear hW
  refine (Mul_is n m o5 O5.out s HS.out _ i1 i3).mono ?_
  rintro e u1 ⟨rfl, hn⟩
  replace kr := kr.of hn
  replace ks := ks.of hn
  replace k0 := k0.of hn
  replace hb0 := hb0.trans (hn.mono hb0.size)
  clear hn 
  have cr := RVar.c kr
  have cs := RVar.c ks
  have lr := kr.lt
  have ls := ks.lt
  have ls2 : w.heap.size < u1.heap.size := by omega
  go_wp2_with fail
  refine calls_w ?_
  intro V1 hV
  have hv : Below u1.heap.size u1 V1 := by rw [hV]; exact below_a1 _ _
  replace kr := kr.of hv
  replace ks := ks.of hv
  replace k0 := k0.of hv
  replace hb0 := hb0.trans (hv.mono hb0.size)
  have kz : Var V1 u1.heap.size s := by rw [hV]; exact Blk.new _ _ _
  clear hV hv
  clear cr cs lr ls ls2
  refine (Mul_is d e o4 O4.out v HV.out _ i2 i4).mono ?_
  rintro e u2 ⟨rfl, hn⟩
  replace kr := kr.of hn
  replace ks := ks.of hn
  replace k0 := k0.of hn
  replace kz := kz.of hn
  replace hb0 := hb0.trans (hn.mono hb0.size)
  clear hn 
  have hcase : o5 = false ∨ (o5 = true ∧ o4 = false) ∨ (o5 = true ∧ o4 = true) := by
    cases o5 <;> cases o4 <;> simp
  have l0 := k0.lt
  have l00 : w.heap.size + 1 < u2.heap.size := by omega
  rcases hcase with rfl | ⟨rfl, rfl⟩ | ⟨rfl, rfl⟩
  · clear kr ks kz
    have c := RVar.c k0
    have f := RVar.f k0
    have K0 := Lib.hid k0
    clear k0
    go_wp2
    refine post_world ?_
    intro Wf hWf
    have kf : RVar Wf (w.heap.size + 1 + 1) (0) (0) := by rw [hWf]; exact (put8 K0.out (0) (0)).alloc _
    have hbf : Below w.heap.size w Wf := by rw [hWf]; exact (below_set8 hb0 (by omega) (0) (0)).alloc (by simp; exact hb0.size) _
    have c := RVar.c kf
    clear hWf
    simp [bodyPost, results, Try.results59, go_sem, c]
    exact hbf
  · clear kr ks kz
    have c := RVar.c k0
    have f := RVar.f k0
    have K0 := Lib.hid k0
    clear k0
    go_wp2
    refine post_world ?_
    intro Wf hWf
    have kf : RVar Wf (w.heap.size + 1 + 1) (0) (0) := by rw [hWf]; exact (put8 K0.out (0) (0)).alloc _
    have hbf : Below w.heap.size w Wf := by rw [hWf]; exact (below_set8 hb0 (by omega) (0) (0)).alloc (by simp; exact hb0.size) _
    have c := RVar.c kf
    clear hWf
    simp [bodyPost, results, Try.results59, go_sem, c]
    exact hbf
  · skip
    have cr := RVar.c kr
    have lr := kr.lt
    go_wp2_with fail
    refine calls_w ?_
    intro V2 hV
    have hv : Below u2.heap.size u2 V2 := by rw [hV]; exact below_a1 _ _
    replace kr := kr.of hv
    replace ks := ks.of hv
    replace k0 := k0.of hv
    replace kz := kz.of hv
    replace hb0 := hb0.trans (hv.mono hb0.size)
    have kv : Var V2 u2.heap.size v := by rw [hV]; exact Blk.new _ _ _
    clear hV hv
    clear cr lr l0 l00
    refine (Right_is n d _ i2 r1 R1.out).mono ?_
    rintro e u3 ⟨rfl, hn⟩
    replace kr := kr.of hn
    replace ks := ks.of hn
    replace k0 := k0.of hn
    replace kz := kz.of hn
    replace kv := kv.of hn
    replace hb0 := hb0.trans (hn.mono hb0.size)
    clear hn 
    cases r1
    · clear kr ks kz kv
      have c := RVar.c k0
      have f := RVar.f k0
      have K0 := Lib.hid k0
      clear k0
      go_wp2
      refine post_world ?_
      intro Wf hWf
      have kf : RVar Wf (w.heap.size + 1 + 1) (0) (0) := by rw [hWf]; exact put8 K0.out (0) (0)
      have hbf : Below w.heap.size w Wf := by rw [hWf]; exact below_set8 hb0 (by omega) (0) (0)
      have c := RVar.c kf
      clear hWf
      simp [bodyPost, results, Try.results59, go_sem, c]
      exact hbf
    · skip
      have cs := RVar.c ks
      go_wp2_with fail
      refine (Right_is m e _ i4 r2 R2.out).mono ?_
      rintro e u4 ⟨rfl, hn⟩
      replace kr := kr.of hn
      replace ks := ks.of hn
      replace k0 := k0.of hn
      replace kz := kz.of hn
      replace kv := kv.of hn
      replace hb0 := hb0.trans (hn.mono hb0.size)
      clear hn 
      clear cs
      cases r2
      · clear kr ks kz kv
        have c := RVar.c k0
        have f := RVar.f k0
        have K0 := Lib.hid k0
        clear k0
        go_wp2
        refine post_world ?_
        intro Wf hWf
        have kf : RVar Wf (w.heap.size + 1 + 1) (0) (0) := by rw [hWf]; exact put8 K0.out (0) (0)
        have hbf : Below w.heap.size w Wf := by rw [hWf]; exact below_set8 hb0 (by omega) (0) (0)
        have c := RVar.c kf
        clear hWf
        simp [bodyPost, results, Try.results59, go_sem, c]
        exact hbf
      · clear kr ks
        have cz := Var.c kz
        have cv := Var.c kv
        have c := RVar.c k0
        have f := RVar.f k0
        have K0 := Lib.hid k0
        clear k0
        go_wp2
        refine post_world ?_
        intro Wf hWf
        have kf : RVar Wf (w.heap.size + 1 + 1) (s) (v) := by rw [hWf]; exact put8 K0.out (s) (v)
        have hbf : Below w.heap.size w Wf := by rw [hWf]; exact below_set8 hb0 (by omega) (s) (v)
        have c := RVar.c kf
        clear hWf
        simp [bodyPost, results, Try.results59, go_sem, c]
        exact hbf
end Go.Proofs.Ytgddpkopbiendaa
