/- The walk of gromaref03's On. Conditions: none. -/
import Derived.Test.YtgddpkopbiendaaPntD
import Derived.Test.YtgddpkopbiendaaPntE
namespace Go.Proofs.Ytgddpkopbiendaa
open Go.RowKit

theorem rWay_is (ax ay bx b_y cx cy r : Int) (h : way ax ay bx b_y cx cy = r) (w : World) :
    Calls Try.prog 38 #[pI ax ay, pI bx b_y, pI cx cy] w fun e w' => e = .returned (.int .i64 r) ∧ Below w.heap.size w w' := h ▸ Way_any ax ay bx b_y cx cy w
theorem Blk.put2 {w : World} {b : Nat} {p q : Value} {t : TypeId} (h : Blk w b #[p, q] t) (u v : Value) : Blk ((w.setCell ⟨b, 0, none⟩ u).setCell ⟨b, 1, none⟩ v) b #[u, v] t := (h.put 0 u).put 1 v
theorem Blk.sett {w : World} {b b' : Nat} {c : Array Value} {t : TypeId} (h : Blk w b c t) (hne : b ≠ b') (u v : Value) : Blk ((w.setCell ⟨b', 0, none⟩ u).setCell ⟨b', 1, none⟩ v) b c t := (h.set hne _ _ _).set hne _ _ _
theorem rAhead_is (ax ay bx b_y : Int) (r : Bool) (h : ahd ax ay bx b_y = r) (w : World) : Calls Try.prog 41 #[pI ax ay, pI bx b_y] w fun e w' => e = .returned (.bool r) ∧ Below w.heap.size w w' := h ▸ Ahead_any ax ay bx b_y w
set_option maxRecDepth 100000 in
set_option maxHeartbeats 2000000 in
theorem rOn_any (ax ay bx b_y cx cy : Int) (w : World) :
    Calls Try.prog 46 #[pI ax ay, pI bx b_y, pI cx cy] w fun e w' => e = .returned (.bool (onB ax ay bx b_y cx cy)) ∧ Below w.heap.size w w' := by
  rw [onB_lex]
  unfold rp3 lexB
  obtain ⟨x, hx⟩ : ∃ x, rp ax ay = x := ⟨_, rfl⟩
  obtain ⟨y, hy⟩ : ∃ y, rp bx b_y = y := ⟨_, rfl⟩
  obtain ⟨z, hz⟩ : ∃ z, rp cx cy = z := ⟨_, rfl⟩
  obtain ⟨s, hs⟩ : ∃ s : Int, way ax ay bx b_y cx cy = s := ⟨_, rfl⟩
  obtain ⟨t, ht⟩ : ∃ t : Bool, (s == 0) = t := ⟨_, rfl⟩
  obtain ⟨h, hh⟩ : ∃ h, ahd bx b_y ax ay = h := ⟨_, rfl⟩
  obtain ⟨p, hp⟩ : ∃ p, ahd cx cy bx b_y = p := ⟨_, rfl⟩
  obtain ⟨q, hq⟩ : ∃ q, ahd ax ay cx cy = q := ⟨_, rfl⟩
  obtain ⟨m, hm⟩ : ∃ m, ahd cx cy ax ay = m := ⟨_, rfl⟩
  obtain ⟨n, hn⟩ : ∃ n, ahd bx b_y cx cy = n := ⟨_, rfl⟩
  rw [hx, hy, hz, hs, ht, hh, hp, hq, hm, hn]
  have HX := Lib.hid hx
  have HY := Lib.hid hy
  have HZ := Lib.hid hz
  have HS := Lib.hid hs
  have HH := Lib.hid hh
  have HP := Lib.hid hp
  have HQ := Lib.hid hq
  have HM := Lib.hid hm
  have HN := Lib.hid hn
  clear hx hy hz hs hh hp hq hm hn
  go_enter Try.func46, Try.ntmps46
  go_wp2_with fail
  first | refine calls_w ?_ | refine name_world ?_
  intro W hW
  have ka : QVar W (w.heap.size) ax ay := by rw [hW]; exact (Blk.new w _ _) |>.alloc _ |>.alloc _
  have kb : QVar W (w.heap.size + 1) bx b_y := by rw [hW]; exact (Blk.new1 w _ _ _) |>.alloc _
  have kc : QVar W (w.heap.size + 1 + 1) cx cy := by rw [hW]; exact (Blk.new2 w _ _ _ _)
  have hb0 : Below w.heap.size w W := by rw [hW]; exact below_a3 _ _ _ _
  clear hW
  refine (rR_is ax ay x HX.out _).mono ?_
  rintro e u1 ⟨rfl, hn⟩
  replace ka : QVar u1 _ _ _ := ka.of hn
  replace kb : QVar u1 _ _ _ := kb.of hn
  replace kc : QVar u1 _ _ _ := kc.of hn
  replace hb0 := hb0.trans (hn.mono hb0.size)
  clear hn 
  cases x
  · have ca := QVar.c ka
    have la := ka.lt
    have cb := QVar.c kb
    have lb := kb.lt
    have cc := QVar.c kc
    have lc := kc.lt
    go_wp2
    go_ret
    exact ⟨rfl, hb0⟩
  · have ca := QVar.c ka
    have la := ka.lt
    have cb := QVar.c kb
    have lb := kb.lt
    have cc := QVar.c kc
    have lc := kc.lt
    go_wp2_with fail
    clear ca la cb lb cc lc
    refine (rR_is bx b_y y HY.out _).mono ?_
    rintro e u2 ⟨rfl, hn⟩
    replace ka : QVar u2 _ _ _ := ka.of hn
    replace kb : QVar u2 _ _ _ := kb.of hn
    replace kc : QVar u2 _ _ _ := kc.of hn
    replace hb0 := hb0.trans (hn.mono hb0.size)
    clear hn 
    cases y
    · have ca := QVar.c ka
      have la := ka.lt
      have cb := QVar.c kb
      have lb := kb.lt
      have cc := QVar.c kc
      have lc := kc.lt
      go_wp2
      go_ret
      exact ⟨rfl, hb0⟩
    · have ca := QVar.c ka
      have la := ka.lt
      have cb := QVar.c kb
      have lb := kb.lt
      have cc := QVar.c kc
      have lc := kc.lt
      go_wp2_with fail
      clear ca la cb lb cc lc
      refine (rR_is cx cy z HZ.out _).mono ?_
      rintro e u3 ⟨rfl, hn⟩
      replace ka : QVar u3 _ _ _ := ka.of hn
      replace kb : QVar u3 _ _ _ := kb.of hn
      replace kc : QVar u3 _ _ _ := kc.of hn
      replace hb0 := hb0.trans (hn.mono hb0.size)
      clear hn 
      cases z
      · have ca := QVar.c ka
        have la := ka.lt
        have cb := QVar.c kb
        have lb := kb.lt
        have cc := QVar.c kc
        have lc := kc.lt
        go_wp2
        go_ret
        exact ⟨rfl, hb0⟩
      · have ca := QVar.c ka
        have la := ka.lt
        have cb := QVar.c kb
        have lb := kb.lt
        have cc := QVar.c kc
        have lc := kc.lt
        go_wp2_with fail
        clear ca la cb lb cc lc
        refine (rWay_is ax ay bx b_y cx cy s HS.out _).mono ?_
        rintro e u4 ⟨rfl, hn⟩
        replace ka : QVar u4 _ _ _ := ka.of hn
        replace kb : QVar u4 _ _ _ := kb.of hn
        replace kc : QVar u4 _ _ _ := kc.of hn
        replace hb0 := hb0.trans (hn.mono hb0.size)
        clear hn 
        cases t
        · have ca := QVar.c ka
          have la := ka.lt
          have cb := QVar.c kb
          have lb := kb.lt
          have cc := QVar.c kc
          have lc := kc.lt
          go_wp2
          go_ret
          exact ⟨rfl, hb0⟩
        · have ca := QVar.c ka
          have la := ka.lt
          have cb := QVar.c kb
          have lb := kb.lt
          have cc := QVar.c kc
          have lc := kc.lt
          go_wp2_with fail
          clear ca la cb lb cc lc
          have la4 := ka.lt
          have lb4 := kb.lt
          have lc4 := kc.lt
          have HNE := Lib.hid (show (w.heap.size ≠ u4.heap.size ∧ w.heap.size + 1 ≠ u4.heap.size ∧ w.heap.size + 1 + 1 ≠ u4.heap.size ∧ w.heap.size ≠ u4.heap.size + 1 ∧ w.heap.size + 1 ≠ u4.heap.size + 1 ∧ w.heap.size + 1 + 1 ≠ u4.heap.size + 1 ∧ u4.heap.size ≠ u4.heap.size + 1 ∧ w.heap.size < u4.heap.size ∧ w.heap.size + 1 < u4.heap.size ∧ w.heap.size + 1 + 1 < u4.heap.size) from by omega)
          clear la4 lb4 lc4
          refine calls_w ?_
          intro V hV
          have kl : QVar V u4.heap.size ax ay := by rw [hV]; exact (Blk.new _ _ _).alloc _
          have km : QVar V (u4.heap.size + 1) bx b_y := by rw [hV]; exact Blk.new1 _ _ _ _
          have hbV : Below u4.heap.size u4 V := by rw [hV]; exact below_a2 _ _ _
          replace ka : QVar V _ _ _ := ka.of hbV
          replace kb : QVar V _ _ _ := kb.of hbV
          replace kc : QVar V _ _ _ := kc.of hbV
          have hge : w.heap.size ≤ u4.heap.size := hb0.size
          replace hb0 := hb0.trans (hbV.mono hb0.size)
          clear hV hbV
          refine (rAhead_is bx b_y ax ay h HH.out _).mono ?_
          rintro e u5 ⟨rfl, hn⟩
          replace ka : QVar u5 _ _ _ := ka.of hn
          replace kb : QVar u5 _ _ _ := kb.of hn
          replace kc : QVar u5 _ _ _ := kc.of hn
          replace kl : QVar u5 _ _ _ := kl.of hn
          replace km : QVar u5 _ _ _ := km.of hn
          replace hb0 := hb0.trans (hn.mono hb0.size)
          clear hn 
          cases h
          · have ca := QVar.c ka
            have la := ka.lt
            have cb := QVar.c kb
            have lb := kb.lt
            have cc := QVar.c kc
            have lc := kc.lt
            have cl := QVar.c kl
            have ll := kl.lt
            have cm := QVar.c km
            have lm := km.lt
            go_wp2_with fail
            clear ca la cb lb cc lc cl ll cm lm
            refine (rAhead_is cx cy ax ay m HM.out _).mono ?_
            rintro e u6 ⟨rfl, hn⟩
            replace ka : QVar u6 _ _ _ := ka.of hn
            replace kb : QVar u6 _ _ _ := kb.of hn
            replace kc : QVar u6 _ _ _ := kc.of hn
            replace kl : QVar u6 _ _ _ := kl.of hn
            replace km : QVar u6 _ _ _ := km.of hn
            replace hb0 := hb0.trans (hn.mono hb0.size)
            clear hn 
            cases m
            · have ca := QVar.c ka
              have la := ka.lt
              have cb := QVar.c kb
              have lb := kb.lt
              have cc := QVar.c kc
              have lc := kc.lt
              have cl := QVar.c kl
              have ll := kl.lt
              have cm := QVar.c km
              have lm := km.lt
              go_wp2_with fail
              clear ca la cb lb cc lc cl ll cm lm
              refine (rAhead_is bx b_y cx cy n HN.out _).mono ?_
              rintro e u7 ⟨rfl, hn⟩
              replace ka : QVar u7 _ _ _ := ka.of hn
              replace kb : QVar u7 _ _ _ := kb.of hn
              replace kc : QVar u7 _ _ _ := kc.of hn
              replace kl : QVar u7 _ _ _ := kl.of hn
              replace km : QVar u7 _ _ _ := km.of hn
              replace hb0 := hb0.trans (hn.mono hb0.size)
              clear hn 
              cases n
              · have ca := QVar.c ka
                have la := ka.lt
                have cb := QVar.c kb
                have lb := kb.lt
                have cc := QVar.c kc
                have lc := kc.lt
                have cl := QVar.c kl
                have ll := kl.lt
                have cm := QVar.c km
                have lm := km.lt
                go_wp2
                go_ret
                exact ⟨rfl, hb0⟩
              · have ca := QVar.c ka
                have la := ka.lt
                have cb := QVar.c kb
                have lb := kb.lt
                have cc := QVar.c kc
                have lc := kc.lt
                have cl := QVar.c kl
                have ll := kl.lt
                have cm := QVar.c km
                have lm := km.lt
                go_wp2
                go_ret
                exact ⟨rfl, hb0⟩
            · have ca := QVar.c ka
              have la := ka.lt
              have cb := QVar.c kb
              have lb := kb.lt
              have cc := QVar.c kc
              have lc := kc.lt
              have cl := QVar.c kl
              have ll := kl.lt
              have cm := QVar.c km
              have lm := km.lt
              go_wp2
              go_ret
              exact ⟨rfl, hb0⟩
          · have ca := QVar.c ka
            have la := ka.lt
            have cb := QVar.c kb
            have lb := kb.lt
            have cc := QVar.c kc
            have lc := kc.lt
            have cl := QVar.c kl
            have ll := kl.lt
            have cm := QVar.c km
            have lm := km.lt
            have fl0 := kl.free 0
            have fl1 := kl.free 1
            have fm0 := km.free 0
            have fm1 := km.free 1
            obtain ⟨n1, n2, n3, n4, n5, n6, n7, _, _, _⟩ := HNE.out
            go_wp2_with fail
            refine calls_w ?_
            intro V2 hV2
            clear ca la cb lb cc lc cl ll cm lm
            have hb2 : Below u4.heap.size u5 V2 := by rw [hV2]; exact set2_below (set2_below (Below.refl _ _) (Nat.le_refl _) _ _) (by omega) _ _
            replace ka : QVar V2 _ _ _ := ka.below hb2 HNE.out.2.2.2.2.2.2.2.1
            replace kb : QVar V2 _ _ _ := kb.below hb2 HNE.out.2.2.2.2.2.2.2.2.1
            replace kc : QVar V2 _ _ _ := kc.below hb2 HNE.out.2.2.2.2.2.2.2.2.2
            replace km : QVar V2 (u4.heap.size + 1) ax ay := by rw [hV2]; exact (km.sett (Ne.symm n7) _ _).put2 _ _
            replace kl : QVar V2 u4.heap.size bx b_y := by rw [hV2]; exact (kl.put2 _ _).sett n7 _ _
            replace hb0 := hb0.trans (hb2.mono hge)
            clear hb2 hV2 n1 n2 n3 n4 n5 n6 n7 fl0 fl1 fm0 fm1
            refine (rAhead_is cx cy bx b_y p HP.out _).mono ?_
            rintro e u6 ⟨rfl, hn⟩
            replace ka : QVar u6 _ _ _ := ka.of hn
            replace kb : QVar u6 _ _ _ := kb.of hn
            replace kc : QVar u6 _ _ _ := kc.of hn
            replace kl : QVar u6 _ _ _ := kl.of hn
            replace km : QVar u6 _ _ _ := km.of hn
            replace hb0 := hb0.trans (hn.mono hb0.size)
            clear hn 
            cases p
            · have ca := QVar.c ka
              have la := ka.lt
              have cb := QVar.c kb
              have lb := kb.lt
              have cc := QVar.c kc
              have lc := kc.lt
              have cl := QVar.c kl
              have ll := kl.lt
              have cm := QVar.c km
              have lm := km.lt
              go_wp2_with fail
              clear ca la cb lb cc lc cl ll cm lm
              refine (rAhead_is ax ay cx cy q HQ.out _).mono ?_
              rintro e u7 ⟨rfl, hn⟩
              replace ka : QVar u7 _ _ _ := ka.of hn
              replace kb : QVar u7 _ _ _ := kb.of hn
              replace kc : QVar u7 _ _ _ := kc.of hn
              replace kl : QVar u7 _ _ _ := kl.of hn
              replace km : QVar u7 _ _ _ := km.of hn
              replace hb0 := hb0.trans (hn.mono hb0.size)
              clear hn 
              cases q
              · have ca := QVar.c ka
                have la := ka.lt
                have cb := QVar.c kb
                have lb := kb.lt
                have cc := QVar.c kc
                have lc := kc.lt
                have cl := QVar.c kl
                have ll := kl.lt
                have cm := QVar.c km
                have lm := km.lt
                go_wp2
                go_ret
                exact ⟨rfl, hb0⟩
              · have ca := QVar.c ka
                have la := ka.lt
                have cb := QVar.c kb
                have lb := kb.lt
                have cc := QVar.c kc
                have lc := kc.lt
                have cl := QVar.c kl
                have ll := kl.lt
                have cm := QVar.c km
                have lm := km.lt
                go_wp2
                go_ret
                exact ⟨rfl, hb0⟩
            · have ca := QVar.c ka
              have la := ka.lt
              have cb := QVar.c kb
              have lb := kb.lt
              have cc := QVar.c kc
              have lc := kc.lt
              have cl := QVar.c kl
              have ll := kl.lt
              have cm := QVar.c km
              have lm := km.lt
              go_wp2
              go_ret
              exact ⟨rfl, hb0⟩
end Go.Proofs.Ytgddpkopbiendaa
