/- My texts Px4, PxM, AwT, Px5, Px7, Px8, PxC, Px9, Bs8, AwC, Cr7, PxF, PxW, PxX, AwE, CrN, PxP, BsG, RegI, joined: what the last one needs of them. Conditions: as each lemma says. -/
import Derived.Test.YtlcbomjdbdgbmaaSPb2
import Derived.KernelRfl
import Derived.StillTail
import Derived.OrdersHeld
import Derived.Deep.Quiet
import Derived.Below
import Derived.WalkKit
import Derived.Test.YtlcbomjdbdgbmaaProg
import Derived.WalkSpells
import Derived.StillTactics
import Derived.Laws.Pointers
import Derived.Deep.RegionHeld3
import Derived.RowKit3
import Derived.Deep.QuietTactic
import Derived.BigQuiet
import Derived.BigRegion
import Derived.Lib.Hide
import Derived.WalkSmall
import Derived.Laws.BitsAllLaws
import Derived.IntWalk
import Derived.Deep.OwnRows
import Derived.Deep.LoopGhost
import Derived.Shelf.Bits.Mul64
import Derived.Deep.WholeRow
import Derived.Laws.Rows
import Derived.ProofKit
import Derived.OpenShut
import Derived.ShutString
import Derived.ChangeOld
import Derived.Lib.SmallJoins
import Derived.Laws.IdiomArrays
namespace Go.Proofs.Ytlcbomjdbdgbmaa
open Go.RowKit

def bak (_fn : Int) (_fd : Int) (_tn : Int) (_td : Int) (_fo : Bool) (_to : Bool) (a : Int) (b : Int) (c : Int) (d : Int) : Bool := (bif decide (0 < (wrap64 (2 * b))) then true else (bif decide ((wrap64 (2 * b)) < 0) then true else (bif decide (c ≤ (wrap64 (2 * a))) then decide ((wrap64 (2 * a)) < d) else false)))

def bafn (fn : Int) (fd : Int) (tn : Int) (td : Int) (fo : Bool) (to : Bool) (a : Int) (b : Int) (c : Int) (d : Int) : Int := (bif decide (0 < (wrap64 (2 * b))) then (tofn (frfn fn fd tn td fo to (pxbn (wrap64 (c - (wrap64 (2 * a)))) (wrap64 (2 * b))) (pxbd (wrap64 (c - (wrap64 (2 * a)))) (wrap64 (2 * b))) false) (frfd fn fd tn td fo to (pxbn (wrap64 (c - (wrap64 (2 * a)))) (wrap64 (2 * b))) (pxbd (wrap64 (c - (wrap64 (2 * a)))) (wrap64 (2 * b))) false) (frtn fn fd tn td fo to (pxbn (wrap64 (c - (wrap64 (2 * a)))) (wrap64 (2 * b))) (pxbd (wrap64 (c - (wrap64 (2 * a)))) (wrap64 (2 * b))) false) (frtd fn fd tn td fo to (pxbn (wrap64 (c - (wrap64 (2 * a)))) (wrap64 (2 * b))) (pxbd (wrap64 (c - (wrap64 (2 * a)))) (wrap64 (2 * b))) false) (frfo fn fd tn td fo to (pxbn (wrap64 (c - (wrap64 (2 * a)))) (wrap64 (2 * b))) (pxbd (wrap64 (c - (wrap64 (2 * a)))) (wrap64 (2 * b))) false) (frto fn fd tn td fo to (pxbn (wrap64 (c - (wrap64 (2 * a)))) (wrap64 (2 * b))) (pxbd (wrap64 (c - (wrap64 (2 * a)))) (wrap64 (2 * b))) false) (pxbn (wrap64 (d - (wrap64 (2 * a)))) (wrap64 (2 * b))) (pxbd (wrap64 (d - (wrap64 (2 * a)))) (wrap64 (2 * b))) true) else (bif decide ((wrap64 (2 * b)) < 0) then (tofn (frfn fn fd tn td fo to (pxbn (wrap64 ((wrap64 (2 * a)) - d)) (wrap64 (-(wrap64 (2 * b))))) (pxbd (wrap64 ((wrap64 (2 * a)) - d)) (wrap64 (-(wrap64 (2 * b))))) true) (frfd fn fd tn td fo to (pxbn (wrap64 ((wrap64 (2 * a)) - d)) (wrap64 (-(wrap64 (2 * b))))) (pxbd (wrap64 ((wrap64 (2 * a)) - d)) (wrap64 (-(wrap64 (2 * b))))) true) (frtn fn fd tn td fo to (pxbn (wrap64 ((wrap64 (2 * a)) - d)) (wrap64 (-(wrap64 (2 * b))))) (pxbd (wrap64 ((wrap64 (2 * a)) - d)) (wrap64 (-(wrap64 (2 * b))))) true) (frtd fn fd tn td fo to (pxbn (wrap64 ((wrap64 (2 * a)) - d)) (wrap64 (-(wrap64 (2 * b))))) (pxbd (wrap64 ((wrap64 (2 * a)) - d)) (wrap64 (-(wrap64 (2 * b))))) true) (frfo fn fd tn td fo to (pxbn (wrap64 ((wrap64 (2 * a)) - d)) (wrap64 (-(wrap64 (2 * b))))) (pxbd (wrap64 ((wrap64 (2 * a)) - d)) (wrap64 (-(wrap64 (2 * b))))) true) (frto fn fd tn td fo to (pxbn (wrap64 ((wrap64 (2 * a)) - d)) (wrap64 (-(wrap64 (2 * b))))) (pxbd (wrap64 ((wrap64 (2 * a)) - d)) (wrap64 (-(wrap64 (2 * b))))) true) (pxbn (wrap64 ((wrap64 (2 * a)) - c)) (wrap64 (-(wrap64 (2 * b))))) (pxbd (wrap64 ((wrap64 (2 * a)) - c)) (wrap64 (-(wrap64 (2 * b))))) false) else fn))

def bafd (fn : Int) (fd : Int) (tn : Int) (td : Int) (fo : Bool) (to : Bool) (a : Int) (b : Int) (c : Int) (d : Int) : Int := (bif decide (0 < (wrap64 (2 * b))) then (tofd (frfn fn fd tn td fo to (pxbn (wrap64 (c - (wrap64 (2 * a)))) (wrap64 (2 * b))) (pxbd (wrap64 (c - (wrap64 (2 * a)))) (wrap64 (2 * b))) false) (frfd fn fd tn td fo to (pxbn (wrap64 (c - (wrap64 (2 * a)))) (wrap64 (2 * b))) (pxbd (wrap64 (c - (wrap64 (2 * a)))) (wrap64 (2 * b))) false) (frtn fn fd tn td fo to (pxbn (wrap64 (c - (wrap64 (2 * a)))) (wrap64 (2 * b))) (pxbd (wrap64 (c - (wrap64 (2 * a)))) (wrap64 (2 * b))) false) (frtd fn fd tn td fo to (pxbn (wrap64 (c - (wrap64 (2 * a)))) (wrap64 (2 * b))) (pxbd (wrap64 (c - (wrap64 (2 * a)))) (wrap64 (2 * b))) false) (frfo fn fd tn td fo to (pxbn (wrap64 (c - (wrap64 (2 * a)))) (wrap64 (2 * b))) (pxbd (wrap64 (c - (wrap64 (2 * a)))) (wrap64 (2 * b))) false) (frto fn fd tn td fo to (pxbn (wrap64 (c - (wrap64 (2 * a)))) (wrap64 (2 * b))) (pxbd (wrap64 (c - (wrap64 (2 * a)))) (wrap64 (2 * b))) false) (pxbn (wrap64 (d - (wrap64 (2 * a)))) (wrap64 (2 * b))) (pxbd (wrap64 (d - (wrap64 (2 * a)))) (wrap64 (2 * b))) true) else (bif decide ((wrap64 (2 * b)) < 0) then (tofd (frfn fn fd tn td fo to (pxbn (wrap64 ((wrap64 (2 * a)) - d)) (wrap64 (-(wrap64 (2 * b))))) (pxbd (wrap64 ((wrap64 (2 * a)) - d)) (wrap64 (-(wrap64 (2 * b))))) true) (frfd fn fd tn td fo to (pxbn (wrap64 ((wrap64 (2 * a)) - d)) (wrap64 (-(wrap64 (2 * b))))) (pxbd (wrap64 ((wrap64 (2 * a)) - d)) (wrap64 (-(wrap64 (2 * b))))) true) (frtn fn fd tn td fo to (pxbn (wrap64 ((wrap64 (2 * a)) - d)) (wrap64 (-(wrap64 (2 * b))))) (pxbd (wrap64 ((wrap64 (2 * a)) - d)) (wrap64 (-(wrap64 (2 * b))))) true) (frtd fn fd tn td fo to (pxbn (wrap64 ((wrap64 (2 * a)) - d)) (wrap64 (-(wrap64 (2 * b))))) (pxbd (wrap64 ((wrap64 (2 * a)) - d)) (wrap64 (-(wrap64 (2 * b))))) true) (frfo fn fd tn td fo to (pxbn (wrap64 ((wrap64 (2 * a)) - d)) (wrap64 (-(wrap64 (2 * b))))) (pxbd (wrap64 ((wrap64 (2 * a)) - d)) (wrap64 (-(wrap64 (2 * b))))) true) (frto fn fd tn td fo to (pxbn (wrap64 ((wrap64 (2 * a)) - d)) (wrap64 (-(wrap64 (2 * b))))) (pxbd (wrap64 ((wrap64 (2 * a)) - d)) (wrap64 (-(wrap64 (2 * b))))) true) (pxbn (wrap64 ((wrap64 (2 * a)) - c)) (wrap64 (-(wrap64 (2 * b))))) (pxbd (wrap64 ((wrap64 (2 * a)) - c)) (wrap64 (-(wrap64 (2 * b))))) false) else fd))

def batn (fn : Int) (fd : Int) (tn : Int) (td : Int) (fo : Bool) (to : Bool) (a : Int) (b : Int) (c : Int) (d : Int) : Int := (bif decide (0 < (wrap64 (2 * b))) then (totn (frfn fn fd tn td fo to (pxbn (wrap64 (c - (wrap64 (2 * a)))) (wrap64 (2 * b))) (pxbd (wrap64 (c - (wrap64 (2 * a)))) (wrap64 (2 * b))) false) (frfd fn fd tn td fo to (pxbn (wrap64 (c - (wrap64 (2 * a)))) (wrap64 (2 * b))) (pxbd (wrap64 (c - (wrap64 (2 * a)))) (wrap64 (2 * b))) false) (frtn fn fd tn td fo to (pxbn (wrap64 (c - (wrap64 (2 * a)))) (wrap64 (2 * b))) (pxbd (wrap64 (c - (wrap64 (2 * a)))) (wrap64 (2 * b))) false) (frtd fn fd tn td fo to (pxbn (wrap64 (c - (wrap64 (2 * a)))) (wrap64 (2 * b))) (pxbd (wrap64 (c - (wrap64 (2 * a)))) (wrap64 (2 * b))) false) (frfo fn fd tn td fo to (pxbn (wrap64 (c - (wrap64 (2 * a)))) (wrap64 (2 * b))) (pxbd (wrap64 (c - (wrap64 (2 * a)))) (wrap64 (2 * b))) false) (frto fn fd tn td fo to (pxbn (wrap64 (c - (wrap64 (2 * a)))) (wrap64 (2 * b))) (pxbd (wrap64 (c - (wrap64 (2 * a)))) (wrap64 (2 * b))) false) (pxbn (wrap64 (d - (wrap64 (2 * a)))) (wrap64 (2 * b))) (pxbd (wrap64 (d - (wrap64 (2 * a)))) (wrap64 (2 * b))) true) else (bif decide ((wrap64 (2 * b)) < 0) then (totn (frfn fn fd tn td fo to (pxbn (wrap64 ((wrap64 (2 * a)) - d)) (wrap64 (-(wrap64 (2 * b))))) (pxbd (wrap64 ((wrap64 (2 * a)) - d)) (wrap64 (-(wrap64 (2 * b))))) true) (frfd fn fd tn td fo to (pxbn (wrap64 ((wrap64 (2 * a)) - d)) (wrap64 (-(wrap64 (2 * b))))) (pxbd (wrap64 ((wrap64 (2 * a)) - d)) (wrap64 (-(wrap64 (2 * b))))) true) (frtn fn fd tn td fo to (pxbn (wrap64 ((wrap64 (2 * a)) - d)) (wrap64 (-(wrap64 (2 * b))))) (pxbd (wrap64 ((wrap64 (2 * a)) - d)) (wrap64 (-(wrap64 (2 * b))))) true) (frtd fn fd tn td fo to (pxbn (wrap64 ((wrap64 (2 * a)) - d)) (wrap64 (-(wrap64 (2 * b))))) (pxbd (wrap64 ((wrap64 (2 * a)) - d)) (wrap64 (-(wrap64 (2 * b))))) true) (frfo fn fd tn td fo to (pxbn (wrap64 ((wrap64 (2 * a)) - d)) (wrap64 (-(wrap64 (2 * b))))) (pxbd (wrap64 ((wrap64 (2 * a)) - d)) (wrap64 (-(wrap64 (2 * b))))) true) (frto fn fd tn td fo to (pxbn (wrap64 ((wrap64 (2 * a)) - d)) (wrap64 (-(wrap64 (2 * b))))) (pxbd (wrap64 ((wrap64 (2 * a)) - d)) (wrap64 (-(wrap64 (2 * b))))) true) (pxbn (wrap64 ((wrap64 (2 * a)) - c)) (wrap64 (-(wrap64 (2 * b))))) (pxbd (wrap64 ((wrap64 (2 * a)) - c)) (wrap64 (-(wrap64 (2 * b))))) false) else tn))

def batd (fn : Int) (fd : Int) (tn : Int) (td : Int) (fo : Bool) (to : Bool) (a : Int) (b : Int) (c : Int) (d : Int) : Int := (bif decide (0 < (wrap64 (2 * b))) then (totd (frfn fn fd tn td fo to (pxbn (wrap64 (c - (wrap64 (2 * a)))) (wrap64 (2 * b))) (pxbd (wrap64 (c - (wrap64 (2 * a)))) (wrap64 (2 * b))) false) (frfd fn fd tn td fo to (pxbn (wrap64 (c - (wrap64 (2 * a)))) (wrap64 (2 * b))) (pxbd (wrap64 (c - (wrap64 (2 * a)))) (wrap64 (2 * b))) false) (frtn fn fd tn td fo to (pxbn (wrap64 (c - (wrap64 (2 * a)))) (wrap64 (2 * b))) (pxbd (wrap64 (c - (wrap64 (2 * a)))) (wrap64 (2 * b))) false) (frtd fn fd tn td fo to (pxbn (wrap64 (c - (wrap64 (2 * a)))) (wrap64 (2 * b))) (pxbd (wrap64 (c - (wrap64 (2 * a)))) (wrap64 (2 * b))) false) (frfo fn fd tn td fo to (pxbn (wrap64 (c - (wrap64 (2 * a)))) (wrap64 (2 * b))) (pxbd (wrap64 (c - (wrap64 (2 * a)))) (wrap64 (2 * b))) false) (frto fn fd tn td fo to (pxbn (wrap64 (c - (wrap64 (2 * a)))) (wrap64 (2 * b))) (pxbd (wrap64 (c - (wrap64 (2 * a)))) (wrap64 (2 * b))) false) (pxbn (wrap64 (d - (wrap64 (2 * a)))) (wrap64 (2 * b))) (pxbd (wrap64 (d - (wrap64 (2 * a)))) (wrap64 (2 * b))) true) else (bif decide ((wrap64 (2 * b)) < 0) then (totd (frfn fn fd tn td fo to (pxbn (wrap64 ((wrap64 (2 * a)) - d)) (wrap64 (-(wrap64 (2 * b))))) (pxbd (wrap64 ((wrap64 (2 * a)) - d)) (wrap64 (-(wrap64 (2 * b))))) true) (frfd fn fd tn td fo to (pxbn (wrap64 ((wrap64 (2 * a)) - d)) (wrap64 (-(wrap64 (2 * b))))) (pxbd (wrap64 ((wrap64 (2 * a)) - d)) (wrap64 (-(wrap64 (2 * b))))) true) (frtn fn fd tn td fo to (pxbn (wrap64 ((wrap64 (2 * a)) - d)) (wrap64 (-(wrap64 (2 * b))))) (pxbd (wrap64 ((wrap64 (2 * a)) - d)) (wrap64 (-(wrap64 (2 * b))))) true) (frtd fn fd tn td fo to (pxbn (wrap64 ((wrap64 (2 * a)) - d)) (wrap64 (-(wrap64 (2 * b))))) (pxbd (wrap64 ((wrap64 (2 * a)) - d)) (wrap64 (-(wrap64 (2 * b))))) true) (frfo fn fd tn td fo to (pxbn (wrap64 ((wrap64 (2 * a)) - d)) (wrap64 (-(wrap64 (2 * b))))) (pxbd (wrap64 ((wrap64 (2 * a)) - d)) (wrap64 (-(wrap64 (2 * b))))) true) (frto fn fd tn td fo to (pxbn (wrap64 ((wrap64 (2 * a)) - d)) (wrap64 (-(wrap64 (2 * b))))) (pxbd (wrap64 ((wrap64 (2 * a)) - d)) (wrap64 (-(wrap64 (2 * b))))) true) (pxbn (wrap64 ((wrap64 (2 * a)) - c)) (wrap64 (-(wrap64 (2 * b))))) (pxbd (wrap64 ((wrap64 (2 * a)) - c)) (wrap64 (-(wrap64 (2 * b))))) false) else td))

def bafo (fn : Int) (fd : Int) (tn : Int) (td : Int) (fo : Bool) (to : Bool) (a : Int) (b : Int) (c : Int) (d : Int) : Bool := (bif decide (0 < (wrap64 (2 * b))) then (tofo (frfn fn fd tn td fo to (pxbn (wrap64 (c - (wrap64 (2 * a)))) (wrap64 (2 * b))) (pxbd (wrap64 (c - (wrap64 (2 * a)))) (wrap64 (2 * b))) false) (frfd fn fd tn td fo to (pxbn (wrap64 (c - (wrap64 (2 * a)))) (wrap64 (2 * b))) (pxbd (wrap64 (c - (wrap64 (2 * a)))) (wrap64 (2 * b))) false) (frtn fn fd tn td fo to (pxbn (wrap64 (c - (wrap64 (2 * a)))) (wrap64 (2 * b))) (pxbd (wrap64 (c - (wrap64 (2 * a)))) (wrap64 (2 * b))) false) (frtd fn fd tn td fo to (pxbn (wrap64 (c - (wrap64 (2 * a)))) (wrap64 (2 * b))) (pxbd (wrap64 (c - (wrap64 (2 * a)))) (wrap64 (2 * b))) false) (frfo fn fd tn td fo to (pxbn (wrap64 (c - (wrap64 (2 * a)))) (wrap64 (2 * b))) (pxbd (wrap64 (c - (wrap64 (2 * a)))) (wrap64 (2 * b))) false) (frto fn fd tn td fo to (pxbn (wrap64 (c - (wrap64 (2 * a)))) (wrap64 (2 * b))) (pxbd (wrap64 (c - (wrap64 (2 * a)))) (wrap64 (2 * b))) false) (pxbn (wrap64 (d - (wrap64 (2 * a)))) (wrap64 (2 * b))) (pxbd (wrap64 (d - (wrap64 (2 * a)))) (wrap64 (2 * b))) true) else (bif decide ((wrap64 (2 * b)) < 0) then (tofo (frfn fn fd tn td fo to (pxbn (wrap64 ((wrap64 (2 * a)) - d)) (wrap64 (-(wrap64 (2 * b))))) (pxbd (wrap64 ((wrap64 (2 * a)) - d)) (wrap64 (-(wrap64 (2 * b))))) true) (frfd fn fd tn td fo to (pxbn (wrap64 ((wrap64 (2 * a)) - d)) (wrap64 (-(wrap64 (2 * b))))) (pxbd (wrap64 ((wrap64 (2 * a)) - d)) (wrap64 (-(wrap64 (2 * b))))) true) (frtn fn fd tn td fo to (pxbn (wrap64 ((wrap64 (2 * a)) - d)) (wrap64 (-(wrap64 (2 * b))))) (pxbd (wrap64 ((wrap64 (2 * a)) - d)) (wrap64 (-(wrap64 (2 * b))))) true) (frtd fn fd tn td fo to (pxbn (wrap64 ((wrap64 (2 * a)) - d)) (wrap64 (-(wrap64 (2 * b))))) (pxbd (wrap64 ((wrap64 (2 * a)) - d)) (wrap64 (-(wrap64 (2 * b))))) true) (frfo fn fd tn td fo to (pxbn (wrap64 ((wrap64 (2 * a)) - d)) (wrap64 (-(wrap64 (2 * b))))) (pxbd (wrap64 ((wrap64 (2 * a)) - d)) (wrap64 (-(wrap64 (2 * b))))) true) (frto fn fd tn td fo to (pxbn (wrap64 ((wrap64 (2 * a)) - d)) (wrap64 (-(wrap64 (2 * b))))) (pxbd (wrap64 ((wrap64 (2 * a)) - d)) (wrap64 (-(wrap64 (2 * b))))) true) (pxbn (wrap64 ((wrap64 (2 * a)) - c)) (wrap64 (-(wrap64 (2 * b))))) (pxbd (wrap64 ((wrap64 (2 * a)) - c)) (wrap64 (-(wrap64 (2 * b))))) false) else fo))

def bato (fn : Int) (fd : Int) (tn : Int) (td : Int) (fo : Bool) (to : Bool) (a : Int) (b : Int) (c : Int) (d : Int) : Bool := (bif decide (0 < (wrap64 (2 * b))) then (toto (frfn fn fd tn td fo to (pxbn (wrap64 (c - (wrap64 (2 * a)))) (wrap64 (2 * b))) (pxbd (wrap64 (c - (wrap64 (2 * a)))) (wrap64 (2 * b))) false) (frfd fn fd tn td fo to (pxbn (wrap64 (c - (wrap64 (2 * a)))) (wrap64 (2 * b))) (pxbd (wrap64 (c - (wrap64 (2 * a)))) (wrap64 (2 * b))) false) (frtn fn fd tn td fo to (pxbn (wrap64 (c - (wrap64 (2 * a)))) (wrap64 (2 * b))) (pxbd (wrap64 (c - (wrap64 (2 * a)))) (wrap64 (2 * b))) false) (frtd fn fd tn td fo to (pxbn (wrap64 (c - (wrap64 (2 * a)))) (wrap64 (2 * b))) (pxbd (wrap64 (c - (wrap64 (2 * a)))) (wrap64 (2 * b))) false) (frfo fn fd tn td fo to (pxbn (wrap64 (c - (wrap64 (2 * a)))) (wrap64 (2 * b))) (pxbd (wrap64 (c - (wrap64 (2 * a)))) (wrap64 (2 * b))) false) (frto fn fd tn td fo to (pxbn (wrap64 (c - (wrap64 (2 * a)))) (wrap64 (2 * b))) (pxbd (wrap64 (c - (wrap64 (2 * a)))) (wrap64 (2 * b))) false) (pxbn (wrap64 (d - (wrap64 (2 * a)))) (wrap64 (2 * b))) (pxbd (wrap64 (d - (wrap64 (2 * a)))) (wrap64 (2 * b))) true) else (bif decide ((wrap64 (2 * b)) < 0) then (toto (frfn fn fd tn td fo to (pxbn (wrap64 ((wrap64 (2 * a)) - d)) (wrap64 (-(wrap64 (2 * b))))) (pxbd (wrap64 ((wrap64 (2 * a)) - d)) (wrap64 (-(wrap64 (2 * b))))) true) (frfd fn fd tn td fo to (pxbn (wrap64 ((wrap64 (2 * a)) - d)) (wrap64 (-(wrap64 (2 * b))))) (pxbd (wrap64 ((wrap64 (2 * a)) - d)) (wrap64 (-(wrap64 (2 * b))))) true) (frtn fn fd tn td fo to (pxbn (wrap64 ((wrap64 (2 * a)) - d)) (wrap64 (-(wrap64 (2 * b))))) (pxbd (wrap64 ((wrap64 (2 * a)) - d)) (wrap64 (-(wrap64 (2 * b))))) true) (frtd fn fd tn td fo to (pxbn (wrap64 ((wrap64 (2 * a)) - d)) (wrap64 (-(wrap64 (2 * b))))) (pxbd (wrap64 ((wrap64 (2 * a)) - d)) (wrap64 (-(wrap64 (2 * b))))) true) (frfo fn fd tn td fo to (pxbn (wrap64 ((wrap64 (2 * a)) - d)) (wrap64 (-(wrap64 (2 * b))))) (pxbd (wrap64 ((wrap64 (2 * a)) - d)) (wrap64 (-(wrap64 (2 * b))))) true) (frto fn fd tn td fo to (pxbn (wrap64 ((wrap64 (2 * a)) - d)) (wrap64 (-(wrap64 (2 * b))))) (pxbd (wrap64 ((wrap64 (2 * a)) - d)) (wrap64 (-(wrap64 (2 * b))))) true) (pxbn (wrap64 ((wrap64 (2 * a)) - c)) (wrap64 (-(wrap64 (2 * b))))) (pxbd (wrap64 ((wrap64 (2 * a)) - c)) (wrap64 (-(wrap64 (2 * b))))) false) else to))

theorem bafn_in (fn : Int) (fd : Int) (tn : Int) (td : Int) (fo : Bool) (to : Bool) (a : Int) (b : Int) (c : Int) (d : Int) (_ifn : InI fn) (_ifd : InI fd) (_itn : InI tn) (_itd : InI td) (_ia : In64 a) (_ib : In64 b) (_ic : In64 c) (_id : In64 d) : InI (bafn fn fd tn td fo to a b c d) := by
  unfold bafn
  exact (cond_in (tofn_in (frfn fn fd tn td fo to (pxbn (wrap64 (c - (wrap64 (2 * a)))) (wrap64 (2 * b))) (pxbd (wrap64 (c - (wrap64 (2 * a)))) (wrap64 (2 * b))) false) (frfd fn fd tn td fo to (pxbn (wrap64 (c - (wrap64 (2 * a)))) (wrap64 (2 * b))) (pxbd (wrap64 (c - (wrap64 (2 * a)))) (wrap64 (2 * b))) false) (frtn fn fd tn td fo to (pxbn (wrap64 (c - (wrap64 (2 * a)))) (wrap64 (2 * b))) (pxbd (wrap64 (c - (wrap64 (2 * a)))) (wrap64 (2 * b))) false) (frtd fn fd tn td fo to (pxbn (wrap64 (c - (wrap64 (2 * a)))) (wrap64 (2 * b))) (pxbd (wrap64 (c - (wrap64 (2 * a)))) (wrap64 (2 * b))) false) (frfo fn fd tn td fo to (pxbn (wrap64 (c - (wrap64 (2 * a)))) (wrap64 (2 * b))) (pxbd (wrap64 (c - (wrap64 (2 * a)))) (wrap64 (2 * b))) false) (frto fn fd tn td fo to (pxbn (wrap64 (c - (wrap64 (2 * a)))) (wrap64 (2 * b))) (pxbd (wrap64 (c - (wrap64 (2 * a)))) (wrap64 (2 * b))) false) (pxbn (wrap64 (d - (wrap64 (2 * a)))) (wrap64 (2 * b))) (pxbd (wrap64 (d - (wrap64 (2 * a)))) (wrap64 (2 * b))) true (frfn_in fn fd tn td fo to (pxbn (wrap64 (c - (wrap64 (2 * a)))) (wrap64 (2 * b))) (pxbd (wrap64 (c - (wrap64 (2 * a)))) (wrap64 (2 * b))) false _ifn _ifd _itn _itd (pxbn_in (wrap64 (c - (wrap64 (2 * a)))) (wrap64 (2 * b)) (wrap64_in _) (wrap64_in _)) (pxbd_in (wrap64 (c - (wrap64 (2 * a)))) (wrap64 (2 * b)) (wrap64_in _) (wrap64_in _))) (frfd_in fn fd tn td fo to (pxbn (wrap64 (c - (wrap64 (2 * a)))) (wrap64 (2 * b))) (pxbd (wrap64 (c - (wrap64 (2 * a)))) (wrap64 (2 * b))) false _ifn _ifd _itn _itd (pxbn_in (wrap64 (c - (wrap64 (2 * a)))) (wrap64 (2 * b)) (wrap64_in _) (wrap64_in _)) (pxbd_in (wrap64 (c - (wrap64 (2 * a)))) (wrap64 (2 * b)) (wrap64_in _) (wrap64_in _))) (frtn_in fn fd tn td fo to (pxbn (wrap64 (c - (wrap64 (2 * a)))) (wrap64 (2 * b))) (pxbd (wrap64 (c - (wrap64 (2 * a)))) (wrap64 (2 * b))) false _ifn _ifd _itn _itd (pxbn_in (wrap64 (c - (wrap64 (2 * a)))) (wrap64 (2 * b)) (wrap64_in _) (wrap64_in _)) (pxbd_in (wrap64 (c - (wrap64 (2 * a)))) (wrap64 (2 * b)) (wrap64_in _) (wrap64_in _))) (frtd_in fn fd tn td fo to (pxbn (wrap64 (c - (wrap64 (2 * a)))) (wrap64 (2 * b))) (pxbd (wrap64 (c - (wrap64 (2 * a)))) (wrap64 (2 * b))) false _ifn _ifd _itn _itd (pxbn_in (wrap64 (c - (wrap64 (2 * a)))) (wrap64 (2 * b)) (wrap64_in _) (wrap64_in _)) (pxbd_in (wrap64 (c - (wrap64 (2 * a)))) (wrap64 (2 * b)) (wrap64_in _) (wrap64_in _))) (pxbn_in (wrap64 (d - (wrap64 (2 * a)))) (wrap64 (2 * b)) (wrap64_in _) (wrap64_in _)) (pxbd_in (wrap64 (d - (wrap64 (2 * a)))) (wrap64 (2 * b)) (wrap64_in _) (wrap64_in _))) (cond_in (tofn_in (frfn fn fd tn td fo to (pxbn (wrap64 ((wrap64 (2 * a)) - d)) (wrap64 (-(wrap64 (2 * b))))) (pxbd (wrap64 ((wrap64 (2 * a)) - d)) (wrap64 (-(wrap64 (2 * b))))) true) (frfd fn fd tn td fo to (pxbn (wrap64 ((wrap64 (2 * a)) - d)) (wrap64 (-(wrap64 (2 * b))))) (pxbd (wrap64 ((wrap64 (2 * a)) - d)) (wrap64 (-(wrap64 (2 * b))))) true) (frtn fn fd tn td fo to (pxbn (wrap64 ((wrap64 (2 * a)) - d)) (wrap64 (-(wrap64 (2 * b))))) (pxbd (wrap64 ((wrap64 (2 * a)) - d)) (wrap64 (-(wrap64 (2 * b))))) true) (frtd fn fd tn td fo to (pxbn (wrap64 ((wrap64 (2 * a)) - d)) (wrap64 (-(wrap64 (2 * b))))) (pxbd (wrap64 ((wrap64 (2 * a)) - d)) (wrap64 (-(wrap64 (2 * b))))) true) (frfo fn fd tn td fo to (pxbn (wrap64 ((wrap64 (2 * a)) - d)) (wrap64 (-(wrap64 (2 * b))))) (pxbd (wrap64 ((wrap64 (2 * a)) - d)) (wrap64 (-(wrap64 (2 * b))))) true) (frto fn fd tn td fo to (pxbn (wrap64 ((wrap64 (2 * a)) - d)) (wrap64 (-(wrap64 (2 * b))))) (pxbd (wrap64 ((wrap64 (2 * a)) - d)) (wrap64 (-(wrap64 (2 * b))))) true) (pxbn (wrap64 ((wrap64 (2 * a)) - c)) (wrap64 (-(wrap64 (2 * b))))) (pxbd (wrap64 ((wrap64 (2 * a)) - c)) (wrap64 (-(wrap64 (2 * b))))) false (frfn_in fn fd tn td fo to (pxbn (wrap64 ((wrap64 (2 * a)) - d)) (wrap64 (-(wrap64 (2 * b))))) (pxbd (wrap64 ((wrap64 (2 * a)) - d)) (wrap64 (-(wrap64 (2 * b))))) true _ifn _ifd _itn _itd (pxbn_in (wrap64 ((wrap64 (2 * a)) - d)) (wrap64 (-(wrap64 (2 * b)))) (wrap64_in _) (wrap64_in _)) (pxbd_in (wrap64 ((wrap64 (2 * a)) - d)) (wrap64 (-(wrap64 (2 * b)))) (wrap64_in _) (wrap64_in _))) (frfd_in fn fd tn td fo to (pxbn (wrap64 ((wrap64 (2 * a)) - d)) (wrap64 (-(wrap64 (2 * b))))) (pxbd (wrap64 ((wrap64 (2 * a)) - d)) (wrap64 (-(wrap64 (2 * b))))) true _ifn _ifd _itn _itd (pxbn_in (wrap64 ((wrap64 (2 * a)) - d)) (wrap64 (-(wrap64 (2 * b)))) (wrap64_in _) (wrap64_in _)) (pxbd_in (wrap64 ((wrap64 (2 * a)) - d)) (wrap64 (-(wrap64 (2 * b)))) (wrap64_in _) (wrap64_in _))) (frtn_in fn fd tn td fo to (pxbn (wrap64 ((wrap64 (2 * a)) - d)) (wrap64 (-(wrap64 (2 * b))))) (pxbd (wrap64 ((wrap64 (2 * a)) - d)) (wrap64 (-(wrap64 (2 * b))))) true _ifn _ifd _itn _itd (pxbn_in (wrap64 ((wrap64 (2 * a)) - d)) (wrap64 (-(wrap64 (2 * b)))) (wrap64_in _) (wrap64_in _)) (pxbd_in (wrap64 ((wrap64 (2 * a)) - d)) (wrap64 (-(wrap64 (2 * b)))) (wrap64_in _) (wrap64_in _))) (frtd_in fn fd tn td fo to (pxbn (wrap64 ((wrap64 (2 * a)) - d)) (wrap64 (-(wrap64 (2 * b))))) (pxbd (wrap64 ((wrap64 (2 * a)) - d)) (wrap64 (-(wrap64 (2 * b))))) true _ifn _ifd _itn _itd (pxbn_in (wrap64 ((wrap64 (2 * a)) - d)) (wrap64 (-(wrap64 (2 * b)))) (wrap64_in _) (wrap64_in _)) (pxbd_in (wrap64 ((wrap64 (2 * a)) - d)) (wrap64 (-(wrap64 (2 * b)))) (wrap64_in _) (wrap64_in _))) (pxbn_in (wrap64 ((wrap64 (2 * a)) - c)) (wrap64 (-(wrap64 (2 * b)))) (wrap64_in _) (wrap64_in _)) (pxbd_in (wrap64 ((wrap64 (2 * a)) - c)) (wrap64 (-(wrap64 (2 * b)))) (wrap64_in _) (wrap64_in _))) _ifn))

theorem bafd_in (fn : Int) (fd : Int) (tn : Int) (td : Int) (fo : Bool) (to : Bool) (a : Int) (b : Int) (c : Int) (d : Int) (_ifn : InI fn) (_ifd : InI fd) (_itn : InI tn) (_itd : InI td) (_ia : In64 a) (_ib : In64 b) (_ic : In64 c) (_id : In64 d) : InI (bafd fn fd tn td fo to a b c d) := by
  unfold bafd
  exact (cond_in (tofd_in (frfn fn fd tn td fo to (pxbn (wrap64 (c - (wrap64 (2 * a)))) (wrap64 (2 * b))) (pxbd (wrap64 (c - (wrap64 (2 * a)))) (wrap64 (2 * b))) false) (frfd fn fd tn td fo to (pxbn (wrap64 (c - (wrap64 (2 * a)))) (wrap64 (2 * b))) (pxbd (wrap64 (c - (wrap64 (2 * a)))) (wrap64 (2 * b))) false) (frtn fn fd tn td fo to (pxbn (wrap64 (c - (wrap64 (2 * a)))) (wrap64 (2 * b))) (pxbd (wrap64 (c - (wrap64 (2 * a)))) (wrap64 (2 * b))) false) (frtd fn fd tn td fo to (pxbn (wrap64 (c - (wrap64 (2 * a)))) (wrap64 (2 * b))) (pxbd (wrap64 (c - (wrap64 (2 * a)))) (wrap64 (2 * b))) false) (frfo fn fd tn td fo to (pxbn (wrap64 (c - (wrap64 (2 * a)))) (wrap64 (2 * b))) (pxbd (wrap64 (c - (wrap64 (2 * a)))) (wrap64 (2 * b))) false) (frto fn fd tn td fo to (pxbn (wrap64 (c - (wrap64 (2 * a)))) (wrap64 (2 * b))) (pxbd (wrap64 (c - (wrap64 (2 * a)))) (wrap64 (2 * b))) false) (pxbn (wrap64 (d - (wrap64 (2 * a)))) (wrap64 (2 * b))) (pxbd (wrap64 (d - (wrap64 (2 * a)))) (wrap64 (2 * b))) true (frfn_in fn fd tn td fo to (pxbn (wrap64 (c - (wrap64 (2 * a)))) (wrap64 (2 * b))) (pxbd (wrap64 (c - (wrap64 (2 * a)))) (wrap64 (2 * b))) false _ifn _ifd _itn _itd (pxbn_in (wrap64 (c - (wrap64 (2 * a)))) (wrap64 (2 * b)) (wrap64_in _) (wrap64_in _)) (pxbd_in (wrap64 (c - (wrap64 (2 * a)))) (wrap64 (2 * b)) (wrap64_in _) (wrap64_in _))) (frfd_in fn fd tn td fo to (pxbn (wrap64 (c - (wrap64 (2 * a)))) (wrap64 (2 * b))) (pxbd (wrap64 (c - (wrap64 (2 * a)))) (wrap64 (2 * b))) false _ifn _ifd _itn _itd (pxbn_in (wrap64 (c - (wrap64 (2 * a)))) (wrap64 (2 * b)) (wrap64_in _) (wrap64_in _)) (pxbd_in (wrap64 (c - (wrap64 (2 * a)))) (wrap64 (2 * b)) (wrap64_in _) (wrap64_in _))) (frtn_in fn fd tn td fo to (pxbn (wrap64 (c - (wrap64 (2 * a)))) (wrap64 (2 * b))) (pxbd (wrap64 (c - (wrap64 (2 * a)))) (wrap64 (2 * b))) false _ifn _ifd _itn _itd (pxbn_in (wrap64 (c - (wrap64 (2 * a)))) (wrap64 (2 * b)) (wrap64_in _) (wrap64_in _)) (pxbd_in (wrap64 (c - (wrap64 (2 * a)))) (wrap64 (2 * b)) (wrap64_in _) (wrap64_in _))) (frtd_in fn fd tn td fo to (pxbn (wrap64 (c - (wrap64 (2 * a)))) (wrap64 (2 * b))) (pxbd (wrap64 (c - (wrap64 (2 * a)))) (wrap64 (2 * b))) false _ifn _ifd _itn _itd (pxbn_in (wrap64 (c - (wrap64 (2 * a)))) (wrap64 (2 * b)) (wrap64_in _) (wrap64_in _)) (pxbd_in (wrap64 (c - (wrap64 (2 * a)))) (wrap64 (2 * b)) (wrap64_in _) (wrap64_in _))) (pxbn_in (wrap64 (d - (wrap64 (2 * a)))) (wrap64 (2 * b)) (wrap64_in _) (wrap64_in _)) (pxbd_in (wrap64 (d - (wrap64 (2 * a)))) (wrap64 (2 * b)) (wrap64_in _) (wrap64_in _))) (cond_in (tofd_in (frfn fn fd tn td fo to (pxbn (wrap64 ((wrap64 (2 * a)) - d)) (wrap64 (-(wrap64 (2 * b))))) (pxbd (wrap64 ((wrap64 (2 * a)) - d)) (wrap64 (-(wrap64 (2 * b))))) true) (frfd fn fd tn td fo to (pxbn (wrap64 ((wrap64 (2 * a)) - d)) (wrap64 (-(wrap64 (2 * b))))) (pxbd (wrap64 ((wrap64 (2 * a)) - d)) (wrap64 (-(wrap64 (2 * b))))) true) (frtn fn fd tn td fo to (pxbn (wrap64 ((wrap64 (2 * a)) - d)) (wrap64 (-(wrap64 (2 * b))))) (pxbd (wrap64 ((wrap64 (2 * a)) - d)) (wrap64 (-(wrap64 (2 * b))))) true) (frtd fn fd tn td fo to (pxbn (wrap64 ((wrap64 (2 * a)) - d)) (wrap64 (-(wrap64 (2 * b))))) (pxbd (wrap64 ((wrap64 (2 * a)) - d)) (wrap64 (-(wrap64 (2 * b))))) true) (frfo fn fd tn td fo to (pxbn (wrap64 ((wrap64 (2 * a)) - d)) (wrap64 (-(wrap64 (2 * b))))) (pxbd (wrap64 ((wrap64 (2 * a)) - d)) (wrap64 (-(wrap64 (2 * b))))) true) (frto fn fd tn td fo to (pxbn (wrap64 ((wrap64 (2 * a)) - d)) (wrap64 (-(wrap64 (2 * b))))) (pxbd (wrap64 ((wrap64 (2 * a)) - d)) (wrap64 (-(wrap64 (2 * b))))) true) (pxbn (wrap64 ((wrap64 (2 * a)) - c)) (wrap64 (-(wrap64 (2 * b))))) (pxbd (wrap64 ((wrap64 (2 * a)) - c)) (wrap64 (-(wrap64 (2 * b))))) false (frfn_in fn fd tn td fo to (pxbn (wrap64 ((wrap64 (2 * a)) - d)) (wrap64 (-(wrap64 (2 * b))))) (pxbd (wrap64 ((wrap64 (2 * a)) - d)) (wrap64 (-(wrap64 (2 * b))))) true _ifn _ifd _itn _itd (pxbn_in (wrap64 ((wrap64 (2 * a)) - d)) (wrap64 (-(wrap64 (2 * b)))) (wrap64_in _) (wrap64_in _)) (pxbd_in (wrap64 ((wrap64 (2 * a)) - d)) (wrap64 (-(wrap64 (2 * b)))) (wrap64_in _) (wrap64_in _))) (frfd_in fn fd tn td fo to (pxbn (wrap64 ((wrap64 (2 * a)) - d)) (wrap64 (-(wrap64 (2 * b))))) (pxbd (wrap64 ((wrap64 (2 * a)) - d)) (wrap64 (-(wrap64 (2 * b))))) true _ifn _ifd _itn _itd (pxbn_in (wrap64 ((wrap64 (2 * a)) - d)) (wrap64 (-(wrap64 (2 * b)))) (wrap64_in _) (wrap64_in _)) (pxbd_in (wrap64 ((wrap64 (2 * a)) - d)) (wrap64 (-(wrap64 (2 * b)))) (wrap64_in _) (wrap64_in _))) (frtn_in fn fd tn td fo to (pxbn (wrap64 ((wrap64 (2 * a)) - d)) (wrap64 (-(wrap64 (2 * b))))) (pxbd (wrap64 ((wrap64 (2 * a)) - d)) (wrap64 (-(wrap64 (2 * b))))) true _ifn _ifd _itn _itd (pxbn_in (wrap64 ((wrap64 (2 * a)) - d)) (wrap64 (-(wrap64 (2 * b)))) (wrap64_in _) (wrap64_in _)) (pxbd_in (wrap64 ((wrap64 (2 * a)) - d)) (wrap64 (-(wrap64 (2 * b)))) (wrap64_in _) (wrap64_in _))) (frtd_in fn fd tn td fo to (pxbn (wrap64 ((wrap64 (2 * a)) - d)) (wrap64 (-(wrap64 (2 * b))))) (pxbd (wrap64 ((wrap64 (2 * a)) - d)) (wrap64 (-(wrap64 (2 * b))))) true _ifn _ifd _itn _itd (pxbn_in (wrap64 ((wrap64 (2 * a)) - d)) (wrap64 (-(wrap64 (2 * b)))) (wrap64_in _) (wrap64_in _)) (pxbd_in (wrap64 ((wrap64 (2 * a)) - d)) (wrap64 (-(wrap64 (2 * b)))) (wrap64_in _) (wrap64_in _))) (pxbn_in (wrap64 ((wrap64 (2 * a)) - c)) (wrap64 (-(wrap64 (2 * b)))) (wrap64_in _) (wrap64_in _)) (pxbd_in (wrap64 ((wrap64 (2 * a)) - c)) (wrap64 (-(wrap64 (2 * b)))) (wrap64_in _) (wrap64_in _))) _ifd))

theorem batn_in (fn : Int) (fd : Int) (tn : Int) (td : Int) (fo : Bool) (to : Bool) (a : Int) (b : Int) (c : Int) (d : Int) (_ifn : InI fn) (_ifd : InI fd) (_itn : InI tn) (_itd : InI td) (_ia : In64 a) (_ib : In64 b) (_ic : In64 c) (_id : In64 d) : InI (batn fn fd tn td fo to a b c d) := by
  unfold batn
  exact (cond_in (totn_in (frfn fn fd tn td fo to (pxbn (wrap64 (c - (wrap64 (2 * a)))) (wrap64 (2 * b))) (pxbd (wrap64 (c - (wrap64 (2 * a)))) (wrap64 (2 * b))) false) (frfd fn fd tn td fo to (pxbn (wrap64 (c - (wrap64 (2 * a)))) (wrap64 (2 * b))) (pxbd (wrap64 (c - (wrap64 (2 * a)))) (wrap64 (2 * b))) false) (frtn fn fd tn td fo to (pxbn (wrap64 (c - (wrap64 (2 * a)))) (wrap64 (2 * b))) (pxbd (wrap64 (c - (wrap64 (2 * a)))) (wrap64 (2 * b))) false) (frtd fn fd tn td fo to (pxbn (wrap64 (c - (wrap64 (2 * a)))) (wrap64 (2 * b))) (pxbd (wrap64 (c - (wrap64 (2 * a)))) (wrap64 (2 * b))) false) (frfo fn fd tn td fo to (pxbn (wrap64 (c - (wrap64 (2 * a)))) (wrap64 (2 * b))) (pxbd (wrap64 (c - (wrap64 (2 * a)))) (wrap64 (2 * b))) false) (frto fn fd tn td fo to (pxbn (wrap64 (c - (wrap64 (2 * a)))) (wrap64 (2 * b))) (pxbd (wrap64 (c - (wrap64 (2 * a)))) (wrap64 (2 * b))) false) (pxbn (wrap64 (d - (wrap64 (2 * a)))) (wrap64 (2 * b))) (pxbd (wrap64 (d - (wrap64 (2 * a)))) (wrap64 (2 * b))) true (frfn_in fn fd tn td fo to (pxbn (wrap64 (c - (wrap64 (2 * a)))) (wrap64 (2 * b))) (pxbd (wrap64 (c - (wrap64 (2 * a)))) (wrap64 (2 * b))) false _ifn _ifd _itn _itd (pxbn_in (wrap64 (c - (wrap64 (2 * a)))) (wrap64 (2 * b)) (wrap64_in _) (wrap64_in _)) (pxbd_in (wrap64 (c - (wrap64 (2 * a)))) (wrap64 (2 * b)) (wrap64_in _) (wrap64_in _))) (frfd_in fn fd tn td fo to (pxbn (wrap64 (c - (wrap64 (2 * a)))) (wrap64 (2 * b))) (pxbd (wrap64 (c - (wrap64 (2 * a)))) (wrap64 (2 * b))) false _ifn _ifd _itn _itd (pxbn_in (wrap64 (c - (wrap64 (2 * a)))) (wrap64 (2 * b)) (wrap64_in _) (wrap64_in _)) (pxbd_in (wrap64 (c - (wrap64 (2 * a)))) (wrap64 (2 * b)) (wrap64_in _) (wrap64_in _))) (frtn_in fn fd tn td fo to (pxbn (wrap64 (c - (wrap64 (2 * a)))) (wrap64 (2 * b))) (pxbd (wrap64 (c - (wrap64 (2 * a)))) (wrap64 (2 * b))) false _ifn _ifd _itn _itd (pxbn_in (wrap64 (c - (wrap64 (2 * a)))) (wrap64 (2 * b)) (wrap64_in _) (wrap64_in _)) (pxbd_in (wrap64 (c - (wrap64 (2 * a)))) (wrap64 (2 * b)) (wrap64_in _) (wrap64_in _))) (frtd_in fn fd tn td fo to (pxbn (wrap64 (c - (wrap64 (2 * a)))) (wrap64 (2 * b))) (pxbd (wrap64 (c - (wrap64 (2 * a)))) (wrap64 (2 * b))) false _ifn _ifd _itn _itd (pxbn_in (wrap64 (c - (wrap64 (2 * a)))) (wrap64 (2 * b)) (wrap64_in _) (wrap64_in _)) (pxbd_in (wrap64 (c - (wrap64 (2 * a)))) (wrap64 (2 * b)) (wrap64_in _) (wrap64_in _))) (pxbn_in (wrap64 (d - (wrap64 (2 * a)))) (wrap64 (2 * b)) (wrap64_in _) (wrap64_in _)) (pxbd_in (wrap64 (d - (wrap64 (2 * a)))) (wrap64 (2 * b)) (wrap64_in _) (wrap64_in _))) (cond_in (totn_in (frfn fn fd tn td fo to (pxbn (wrap64 ((wrap64 (2 * a)) - d)) (wrap64 (-(wrap64 (2 * b))))) (pxbd (wrap64 ((wrap64 (2 * a)) - d)) (wrap64 (-(wrap64 (2 * b))))) true) (frfd fn fd tn td fo to (pxbn (wrap64 ((wrap64 (2 * a)) - d)) (wrap64 (-(wrap64 (2 * b))))) (pxbd (wrap64 ((wrap64 (2 * a)) - d)) (wrap64 (-(wrap64 (2 * b))))) true) (frtn fn fd tn td fo to (pxbn (wrap64 ((wrap64 (2 * a)) - d)) (wrap64 (-(wrap64 (2 * b))))) (pxbd (wrap64 ((wrap64 (2 * a)) - d)) (wrap64 (-(wrap64 (2 * b))))) true) (frtd fn fd tn td fo to (pxbn (wrap64 ((wrap64 (2 * a)) - d)) (wrap64 (-(wrap64 (2 * b))))) (pxbd (wrap64 ((wrap64 (2 * a)) - d)) (wrap64 (-(wrap64 (2 * b))))) true) (frfo fn fd tn td fo to (pxbn (wrap64 ((wrap64 (2 * a)) - d)) (wrap64 (-(wrap64 (2 * b))))) (pxbd (wrap64 ((wrap64 (2 * a)) - d)) (wrap64 (-(wrap64 (2 * b))))) true) (frto fn fd tn td fo to (pxbn (wrap64 ((wrap64 (2 * a)) - d)) (wrap64 (-(wrap64 (2 * b))))) (pxbd (wrap64 ((wrap64 (2 * a)) - d)) (wrap64 (-(wrap64 (2 * b))))) true) (pxbn (wrap64 ((wrap64 (2 * a)) - c)) (wrap64 (-(wrap64 (2 * b))))) (pxbd (wrap64 ((wrap64 (2 * a)) - c)) (wrap64 (-(wrap64 (2 * b))))) false (frfn_in fn fd tn td fo to (pxbn (wrap64 ((wrap64 (2 * a)) - d)) (wrap64 (-(wrap64 (2 * b))))) (pxbd (wrap64 ((wrap64 (2 * a)) - d)) (wrap64 (-(wrap64 (2 * b))))) true _ifn _ifd _itn _itd (pxbn_in (wrap64 ((wrap64 (2 * a)) - d)) (wrap64 (-(wrap64 (2 * b)))) (wrap64_in _) (wrap64_in _)) (pxbd_in (wrap64 ((wrap64 (2 * a)) - d)) (wrap64 (-(wrap64 (2 * b)))) (wrap64_in _) (wrap64_in _))) (frfd_in fn fd tn td fo to (pxbn (wrap64 ((wrap64 (2 * a)) - d)) (wrap64 (-(wrap64 (2 * b))))) (pxbd (wrap64 ((wrap64 (2 * a)) - d)) (wrap64 (-(wrap64 (2 * b))))) true _ifn _ifd _itn _itd (pxbn_in (wrap64 ((wrap64 (2 * a)) - d)) (wrap64 (-(wrap64 (2 * b)))) (wrap64_in _) (wrap64_in _)) (pxbd_in (wrap64 ((wrap64 (2 * a)) - d)) (wrap64 (-(wrap64 (2 * b)))) (wrap64_in _) (wrap64_in _))) (frtn_in fn fd tn td fo to (pxbn (wrap64 ((wrap64 (2 * a)) - d)) (wrap64 (-(wrap64 (2 * b))))) (pxbd (wrap64 ((wrap64 (2 * a)) - d)) (wrap64 (-(wrap64 (2 * b))))) true _ifn _ifd _itn _itd (pxbn_in (wrap64 ((wrap64 (2 * a)) - d)) (wrap64 (-(wrap64 (2 * b)))) (wrap64_in _) (wrap64_in _)) (pxbd_in (wrap64 ((wrap64 (2 * a)) - d)) (wrap64 (-(wrap64 (2 * b)))) (wrap64_in _) (wrap64_in _))) (frtd_in fn fd tn td fo to (pxbn (wrap64 ((wrap64 (2 * a)) - d)) (wrap64 (-(wrap64 (2 * b))))) (pxbd (wrap64 ((wrap64 (2 * a)) - d)) (wrap64 (-(wrap64 (2 * b))))) true _ifn _ifd _itn _itd (pxbn_in (wrap64 ((wrap64 (2 * a)) - d)) (wrap64 (-(wrap64 (2 * b)))) (wrap64_in _) (wrap64_in _)) (pxbd_in (wrap64 ((wrap64 (2 * a)) - d)) (wrap64 (-(wrap64 (2 * b)))) (wrap64_in _) (wrap64_in _))) (pxbn_in (wrap64 ((wrap64 (2 * a)) - c)) (wrap64 (-(wrap64 (2 * b)))) (wrap64_in _) (wrap64_in _)) (pxbd_in (wrap64 ((wrap64 (2 * a)) - c)) (wrap64 (-(wrap64 (2 * b)))) (wrap64_in _) (wrap64_in _))) _itn))

theorem batd_in (fn : Int) (fd : Int) (tn : Int) (td : Int) (fo : Bool) (to : Bool) (a : Int) (b : Int) (c : Int) (d : Int) (_ifn : InI fn) (_ifd : InI fd) (_itn : InI tn) (_itd : InI td) (_ia : In64 a) (_ib : In64 b) (_ic : In64 c) (_id : In64 d) : InI (batd fn fd tn td fo to a b c d) := by
  unfold batd
  exact (cond_in (totd_in (frfn fn fd tn td fo to (pxbn (wrap64 (c - (wrap64 (2 * a)))) (wrap64 (2 * b))) (pxbd (wrap64 (c - (wrap64 (2 * a)))) (wrap64 (2 * b))) false) (frfd fn fd tn td fo to (pxbn (wrap64 (c - (wrap64 (2 * a)))) (wrap64 (2 * b))) (pxbd (wrap64 (c - (wrap64 (2 * a)))) (wrap64 (2 * b))) false) (frtn fn fd tn td fo to (pxbn (wrap64 (c - (wrap64 (2 * a)))) (wrap64 (2 * b))) (pxbd (wrap64 (c - (wrap64 (2 * a)))) (wrap64 (2 * b))) false) (frtd fn fd tn td fo to (pxbn (wrap64 (c - (wrap64 (2 * a)))) (wrap64 (2 * b))) (pxbd (wrap64 (c - (wrap64 (2 * a)))) (wrap64 (2 * b))) false) (frfo fn fd tn td fo to (pxbn (wrap64 (c - (wrap64 (2 * a)))) (wrap64 (2 * b))) (pxbd (wrap64 (c - (wrap64 (2 * a)))) (wrap64 (2 * b))) false) (frto fn fd tn td fo to (pxbn (wrap64 (c - (wrap64 (2 * a)))) (wrap64 (2 * b))) (pxbd (wrap64 (c - (wrap64 (2 * a)))) (wrap64 (2 * b))) false) (pxbn (wrap64 (d - (wrap64 (2 * a)))) (wrap64 (2 * b))) (pxbd (wrap64 (d - (wrap64 (2 * a)))) (wrap64 (2 * b))) true (frfn_in fn fd tn td fo to (pxbn (wrap64 (c - (wrap64 (2 * a)))) (wrap64 (2 * b))) (pxbd (wrap64 (c - (wrap64 (2 * a)))) (wrap64 (2 * b))) false _ifn _ifd _itn _itd (pxbn_in (wrap64 (c - (wrap64 (2 * a)))) (wrap64 (2 * b)) (wrap64_in _) (wrap64_in _)) (pxbd_in (wrap64 (c - (wrap64 (2 * a)))) (wrap64 (2 * b)) (wrap64_in _) (wrap64_in _))) (frfd_in fn fd tn td fo to (pxbn (wrap64 (c - (wrap64 (2 * a)))) (wrap64 (2 * b))) (pxbd (wrap64 (c - (wrap64 (2 * a)))) (wrap64 (2 * b))) false _ifn _ifd _itn _itd (pxbn_in (wrap64 (c - (wrap64 (2 * a)))) (wrap64 (2 * b)) (wrap64_in _) (wrap64_in _)) (pxbd_in (wrap64 (c - (wrap64 (2 * a)))) (wrap64 (2 * b)) (wrap64_in _) (wrap64_in _))) (frtn_in fn fd tn td fo to (pxbn (wrap64 (c - (wrap64 (2 * a)))) (wrap64 (2 * b))) (pxbd (wrap64 (c - (wrap64 (2 * a)))) (wrap64 (2 * b))) false _ifn _ifd _itn _itd (pxbn_in (wrap64 (c - (wrap64 (2 * a)))) (wrap64 (2 * b)) (wrap64_in _) (wrap64_in _)) (pxbd_in (wrap64 (c - (wrap64 (2 * a)))) (wrap64 (2 * b)) (wrap64_in _) (wrap64_in _))) (frtd_in fn fd tn td fo to (pxbn (wrap64 (c - (wrap64 (2 * a)))) (wrap64 (2 * b))) (pxbd (wrap64 (c - (wrap64 (2 * a)))) (wrap64 (2 * b))) false _ifn _ifd _itn _itd (pxbn_in (wrap64 (c - (wrap64 (2 * a)))) (wrap64 (2 * b)) (wrap64_in _) (wrap64_in _)) (pxbd_in (wrap64 (c - (wrap64 (2 * a)))) (wrap64 (2 * b)) (wrap64_in _) (wrap64_in _))) (pxbn_in (wrap64 (d - (wrap64 (2 * a)))) (wrap64 (2 * b)) (wrap64_in _) (wrap64_in _)) (pxbd_in (wrap64 (d - (wrap64 (2 * a)))) (wrap64 (2 * b)) (wrap64_in _) (wrap64_in _))) (cond_in (totd_in (frfn fn fd tn td fo to (pxbn (wrap64 ((wrap64 (2 * a)) - d)) (wrap64 (-(wrap64 (2 * b))))) (pxbd (wrap64 ((wrap64 (2 * a)) - d)) (wrap64 (-(wrap64 (2 * b))))) true) (frfd fn fd tn td fo to (pxbn (wrap64 ((wrap64 (2 * a)) - d)) (wrap64 (-(wrap64 (2 * b))))) (pxbd (wrap64 ((wrap64 (2 * a)) - d)) (wrap64 (-(wrap64 (2 * b))))) true) (frtn fn fd tn td fo to (pxbn (wrap64 ((wrap64 (2 * a)) - d)) (wrap64 (-(wrap64 (2 * b))))) (pxbd (wrap64 ((wrap64 (2 * a)) - d)) (wrap64 (-(wrap64 (2 * b))))) true) (frtd fn fd tn td fo to (pxbn (wrap64 ((wrap64 (2 * a)) - d)) (wrap64 (-(wrap64 (2 * b))))) (pxbd (wrap64 ((wrap64 (2 * a)) - d)) (wrap64 (-(wrap64 (2 * b))))) true) (frfo fn fd tn td fo to (pxbn (wrap64 ((wrap64 (2 * a)) - d)) (wrap64 (-(wrap64 (2 * b))))) (pxbd (wrap64 ((wrap64 (2 * a)) - d)) (wrap64 (-(wrap64 (2 * b))))) true) (frto fn fd tn td fo to (pxbn (wrap64 ((wrap64 (2 * a)) - d)) (wrap64 (-(wrap64 (2 * b))))) (pxbd (wrap64 ((wrap64 (2 * a)) - d)) (wrap64 (-(wrap64 (2 * b))))) true) (pxbn (wrap64 ((wrap64 (2 * a)) - c)) (wrap64 (-(wrap64 (2 * b))))) (pxbd (wrap64 ((wrap64 (2 * a)) - c)) (wrap64 (-(wrap64 (2 * b))))) false (frfn_in fn fd tn td fo to (pxbn (wrap64 ((wrap64 (2 * a)) - d)) (wrap64 (-(wrap64 (2 * b))))) (pxbd (wrap64 ((wrap64 (2 * a)) - d)) (wrap64 (-(wrap64 (2 * b))))) true _ifn _ifd _itn _itd (pxbn_in (wrap64 ((wrap64 (2 * a)) - d)) (wrap64 (-(wrap64 (2 * b)))) (wrap64_in _) (wrap64_in _)) (pxbd_in (wrap64 ((wrap64 (2 * a)) - d)) (wrap64 (-(wrap64 (2 * b)))) (wrap64_in _) (wrap64_in _))) (frfd_in fn fd tn td fo to (pxbn (wrap64 ((wrap64 (2 * a)) - d)) (wrap64 (-(wrap64 (2 * b))))) (pxbd (wrap64 ((wrap64 (2 * a)) - d)) (wrap64 (-(wrap64 (2 * b))))) true _ifn _ifd _itn _itd (pxbn_in (wrap64 ((wrap64 (2 * a)) - d)) (wrap64 (-(wrap64 (2 * b)))) (wrap64_in _) (wrap64_in _)) (pxbd_in (wrap64 ((wrap64 (2 * a)) - d)) (wrap64 (-(wrap64 (2 * b)))) (wrap64_in _) (wrap64_in _))) (frtn_in fn fd tn td fo to (pxbn (wrap64 ((wrap64 (2 * a)) - d)) (wrap64 (-(wrap64 (2 * b))))) (pxbd (wrap64 ((wrap64 (2 * a)) - d)) (wrap64 (-(wrap64 (2 * b))))) true _ifn _ifd _itn _itd (pxbn_in (wrap64 ((wrap64 (2 * a)) - d)) (wrap64 (-(wrap64 (2 * b)))) (wrap64_in _) (wrap64_in _)) (pxbd_in (wrap64 ((wrap64 (2 * a)) - d)) (wrap64 (-(wrap64 (2 * b)))) (wrap64_in _) (wrap64_in _))) (frtd_in fn fd tn td fo to (pxbn (wrap64 ((wrap64 (2 * a)) - d)) (wrap64 (-(wrap64 (2 * b))))) (pxbd (wrap64 ((wrap64 (2 * a)) - d)) (wrap64 (-(wrap64 (2 * b))))) true _ifn _ifd _itn _itd (pxbn_in (wrap64 ((wrap64 (2 * a)) - d)) (wrap64 (-(wrap64 (2 * b)))) (wrap64_in _) (wrap64_in _)) (pxbd_in (wrap64 ((wrap64 (2 * a)) - d)) (wrap64 (-(wrap64 (2 * b)))) (wrap64_in _) (wrap64_in _))) (pxbn_in (wrap64 ((wrap64 (2 * a)) - c)) (wrap64 (-(wrap64 (2 * b)))) (wrap64_in _) (wrap64_in _)) (pxbd_in (wrap64 ((wrap64 (2 * a)) - c)) (wrap64 (-(wrap64 (2 * b)))) (wrap64_in _) (wrap64_in _))) _itd))

set_option maxRecDepth 100000 in
set_option maxHeartbeats 4000000 in

theorem pxba_is (fn : Int) (fd : Int) (tn : Int) (td : Int) (fo : Bool) (to : Bool) (a : Int) (b : Int) (c : Int) (d : Int)  (R0 : Bool) (R1 : Int) (R2 : Int) (R3 : Int) (R4 : Int) (R5 : Bool) (R6 : Bool) (hR0 : bak fn fd tn td fo to a b c d = R0) (hR1 : bafn fn fd tn td fo to a b c d = R1) (hR2 : bafd fn fd tn td fo to a b c d = R2) (hR3 : batn fn fd tn td fo to a b c d = R3) (hR4 : batd fn fd tn td fo to a b c d = R4) (hR5 : bafo fn fd tn td fo to a b c d = R5) (hR6 : bato fn fd tn td fo to a b c d = R6) (_ifn : InI fn) (_ifd : InI fd) (_itn : InI tn) (_itd : InI td) (_ia : In64 a) (_ib : In64 b) (_ic : In64 c) (_id : In64 d) (bp : Nat) (w : World) (hkp : Blk w bp #[.int .u64 (wd0 fn), .int .u64 (wd1 fn), .int .u64 (wd2 fn), .int .u64 (wd3 fn), .int .u64 (wd0 fd), .int .u64 (wd1 fd), .int .u64 (wd2 fd), .int .u64 (wd3 fd), .int .u64 (wd0 tn), .int .u64 (wd1 tn), .int .u64 (wd2 tn), .int .u64 (wd3 tn), .int .u64 (wd0 td), .int .u64 (wd1 td), .int .u64 (wd2 td), .int .u64 (wd3 td), .bool fo, .bool to] 54) :
    Calls Try.prog 93 #[.pointer (some ⟨bp, 0, none⟩), .int .i64 a, .int .i64 b, .int .i64 c, .int .i64 d] w fun e w' => e = .returned (.bool R0) ∧ Blk w' bp #[.int .u64 (wd0 R1), .int .u64 (wd1 R1), .int .u64 (wd2 R1), .int .u64 (wd3 R1), .int .u64 (wd0 R2), .int .u64 (wd1 R2), .int .u64 (wd2 R2), .int .u64 (wd3 R2), .int .u64 (wd0 R3), .int .u64 (wd1 R3), .int .u64 (wd2 R3), .int .u64 (wd3 R3), .int .u64 (wd0 R4), .int .u64 (wd1 R4), .int .u64 (wd2 R4), .int .u64 (wd3 R4), .bool R5, .bool R6] 54 ∧ Below bp w w' := by

  have HBL := Lib.hid hkp.lt
  have k1 := hkp
  clear hkp
  have HR0 := Lib.hid hR0
  clear hR0
  have HR1 := Lib.hid hR1
  clear hR1
  have HR2 := Lib.hid hR2
  clear hR2
  have HR3 := Lib.hid hR3
  clear hR3
  have HR4 := Lib.hid hR4
  clear hR4
  have HR5 := Lib.hid hR5
  clear hR5
  have HR6 := Lib.hid hR6
  clear hR6
  obtain ⟨z1, hz1⟩ : ∃ o_o : Bool, decide (0 < (wrap64 (2 * b))) = o_o := ⟨_, rfl⟩
  cases z1
  · obtain ⟨z2, hz2⟩ : ∃ o_o : Bool, decide ((wrap64 (2 * b)) < 0) = o_o := ⟨_, rfl⟩
    cases z2
    · obtain ⟨z3, hz3⟩ : ∃ o_o : Bool, decide (c ≤ (wrap64 (2 * a))) = o_o := ⟨_, rfl⟩
      cases z3
      · go_enter Try.func93, Try.ntmps93
        have e0 : false = R0 := by rw [← HR0.out]; unfold bak; (try rw [hz1]); (try rw [hz2]); (try rw [hz3]); all_goals first | rfl | simp
        have e1 : fn = R1 := by rw [← HR1.out]; unfold bafn; (try rw [hz1]); (try rw [hz2]); (try rw [hz3]); all_goals first | rfl | simp
        have e2 : fd = R2 := by rw [← HR2.out]; unfold bafd; (try rw [hz1]); (try rw [hz2]); (try rw [hz3]); all_goals first | rfl | simp
        have e3 : tn = R3 := by rw [← HR3.out]; unfold batn; (try rw [hz1]); (try rw [hz2]); (try rw [hz3]); all_goals first | rfl | simp
        have e4 : td = R4 := by rw [← HR4.out]; unfold batd; (try rw [hz1]); (try rw [hz2]); (try rw [hz3]); all_goals first | rfl | simp
        have e5 : fo = R5 := by rw [← HR5.out]; unfold bafo; (try rw [hz1]); (try rw [hz2]); (try rw [hz3]); all_goals first | rfl | simp
        have e6 : to = R6 := by rw [← HR6.out]; unfold bato; (try rw [hz1]); (try rw [hz2]); (try rw [hz3]); all_goals first | rfl | simp
        subst e0
        subst e1
        subst e2
        subst e3
        subst e4
        subst e5
        subst e6
        go_wp2
        first | go_ret | go_ret2
        exact ⟨by first | rfl | simp, k1, Below.refl _ _⟩
      · go_enter Try.func93, Try.ntmps93
        have e0 : decide ((wrap64 (2 * a)) < d) = R0 := by rw [← HR0.out]; unfold bak; (try rw [hz1]); (try rw [hz2]); (try rw [hz3]); all_goals first | rfl | simp
        have e1 : fn = R1 := by rw [← HR1.out]; unfold bafn; (try rw [hz1]); (try rw [hz2]); (try rw [hz3]); all_goals first | rfl | simp
        have e2 : fd = R2 := by rw [← HR2.out]; unfold bafd; (try rw [hz1]); (try rw [hz2]); (try rw [hz3]); all_goals first | rfl | simp
        have e3 : tn = R3 := by rw [← HR3.out]; unfold batn; (try rw [hz1]); (try rw [hz2]); (try rw [hz3]); all_goals first | rfl | simp
        have e4 : td = R4 := by rw [← HR4.out]; unfold batd; (try rw [hz1]); (try rw [hz2]); (try rw [hz3]); all_goals first | rfl | simp
        have e5 : fo = R5 := by rw [← HR5.out]; unfold bafo; (try rw [hz1]); (try rw [hz2]); (try rw [hz3]); all_goals first | rfl | simp
        have e6 : to = R6 := by rw [← HR6.out]; unfold bato; (try rw [hz1]); (try rw [hz2]); (try rw [hz3]); all_goals first | rfl | simp
        subst e0
        subst e1
        subst e2
        subst e3
        subst e4
        subst e5
        subst e6
        go_wp2
        first | go_ret | go_ret2
        exact ⟨by first | rfl | simp, k1, Below.refl _ _⟩
    · go_enter Try.func93, Try.ntmps93
      go_wp2_with fail
      obtain ⟨r4, hr4⟩ : ∃ o_o : Int, pxbn (wrap64 ((wrap64 (2 * a)) - d)) (wrap64 (-(wrap64 (2 * b)))) = o_o := ⟨_, rfl⟩
      have Hr4 := Lib.hid hr4
      clear hr4
      obtain ⟨r5, hr5⟩ : ∃ o_o : Int, pxbd (wrap64 ((wrap64 (2 * a)) - d)) (wrap64 (-(wrap64 (2 * b)))) = o_o := ⟨_, rfl⟩
      have Hr5 := Lib.hid hr5
      clear hr5
      refine (pxbd_is (wrap64 ((wrap64 (2 * a)) - d)) (wrap64 (-(wrap64 (2 * b)))) r4 r5 Hr4.out Hr5.out (wrap64_in _) (wrap64_in _)  _).mono ?_
      rintro e U1 ⟨rfl, hn⟩
      replace k1 := k1.of hn
      have hb0 := hn.mono (Nat.le_of_lt HBL.out)
      clear hn
      go_wp2_with fail
      obtain ⟨r6, hr6⟩ : ∃ o_o : Int, frfn fn fd tn td fo to r4 r5 true = o_o := ⟨_, rfl⟩
      have Hr6 := Lib.hid hr6
      clear hr6
      obtain ⟨r7, hr7⟩ : ∃ o_o : Int, frfd fn fd tn td fo to r4 r5 true = o_o := ⟨_, rfl⟩
      have Hr7 := Lib.hid hr7
      clear hr7
      obtain ⟨r8, hr8⟩ : ∃ o_o : Int, frtn fn fd tn td fo to r4 r5 true = o_o := ⟨_, rfl⟩
      have Hr8 := Lib.hid hr8
      clear hr8
      obtain ⟨r9, hr9⟩ : ∃ o_o : Int, frtd fn fd tn td fo to r4 r5 true = o_o := ⟨_, rfl⟩
      have Hr9 := Lib.hid hr9
      clear hr9
      obtain ⟨z10, hz10⟩ : ∃ o_o : Bool, frfo fn fd tn td fo to r4 r5 true = o_o := ⟨_, rfl⟩
      have Hz10 := Lib.hid hz10
      clear hz10
      obtain ⟨z11, hz11⟩ : ∃ o_o : Bool, frto fn fd tn td fo to r4 r5 true = o_o := ⟨_, rfl⟩
      have Hz11 := Lib.hid hz11
      clear hz11
      refine (pxfr_is fn fd tn td fo to r4 r5 true r6 r7 r8 r9 z10 z11 Hr6.out Hr7.out Hr8.out Hr9.out Hz10.out Hz11.out _ifn _ifd _itn _itd (Hr4.out ▸ pxbn_in (wrap64 ((wrap64 (2 * a)) - d)) (wrap64 (-(wrap64 (2 * b)))) (wrap64_in _) (wrap64_in _)) (Hr5.out ▸ pxbd_in (wrap64 ((wrap64 (2 * a)) - d)) (wrap64 (-(wrap64 (2 * b)))) (wrap64_in _) (wrap64_in _)) bp _ k1).mono ?_
      rintro e U2 ⟨rfl, hk_, hn⟩
      replace k1 := hk_
      clear hk_
      replace hb0 := hb0.trans hn
      clear hn
      go_wp2_with fail
      obtain ⟨r12, hr12⟩ : ∃ o_o : Int, pxbn (wrap64 ((wrap64 (2 * a)) - c)) (wrap64 (-(wrap64 (2 * b)))) = o_o := ⟨_, rfl⟩
      have Hr12 := Lib.hid hr12
      clear hr12
      obtain ⟨r13, hr13⟩ : ∃ o_o : Int, pxbd (wrap64 ((wrap64 (2 * a)) - c)) (wrap64 (-(wrap64 (2 * b)))) = o_o := ⟨_, rfl⟩
      have Hr13 := Lib.hid hr13
      clear hr13
      refine (pxbd_is (wrap64 ((wrap64 (2 * a)) - c)) (wrap64 (-(wrap64 (2 * b)))) r12 r13 Hr12.out Hr13.out (wrap64_in _) (wrap64_in _)  _).mono ?_
      rintro e U3 ⟨rfl, hn⟩
      replace k1 := k1.of hn
      replace hb0 := hb0.trans (hn.mono (Nat.le_trans (Nat.le_of_lt HBL.out) hb0.size))
      clear hn
      go_wp2_with fail
      obtain ⟨r14, hr14⟩ : ∃ o_o : Int, tofn r6 r7 r8 r9 z10 z11 r12 r13 false = o_o := ⟨_, rfl⟩
      have Hr14 := Lib.hid hr14
      clear hr14
      obtain ⟨r15, hr15⟩ : ∃ o_o : Int, tofd r6 r7 r8 r9 z10 z11 r12 r13 false = o_o := ⟨_, rfl⟩
      have Hr15 := Lib.hid hr15
      clear hr15
      obtain ⟨r16, hr16⟩ : ∃ o_o : Int, totn r6 r7 r8 r9 z10 z11 r12 r13 false = o_o := ⟨_, rfl⟩
      have Hr16 := Lib.hid hr16
      clear hr16
      obtain ⟨r17, hr17⟩ : ∃ o_o : Int, totd r6 r7 r8 r9 z10 z11 r12 r13 false = o_o := ⟨_, rfl⟩
      have Hr17 := Lib.hid hr17
      clear hr17
      obtain ⟨z18, hz18⟩ : ∃ o_o : Bool, tofo r6 r7 r8 r9 z10 z11 r12 r13 false = o_o := ⟨_, rfl⟩
      have Hz18 := Lib.hid hz18
      clear hz18
      obtain ⟨z19, hz19⟩ : ∃ o_o : Bool, toto r6 r7 r8 r9 z10 z11 r12 r13 false = o_o := ⟨_, rfl⟩
      have Hz19 := Lib.hid hz19
      clear hz19
      refine (pxto_is r6 r7 r8 r9 z10 z11 r12 r13 false r14 r15 r16 r17 z18 z19 Hr14.out Hr15.out Hr16.out Hr17.out Hz18.out Hz19.out (Hr6.out ▸ frfn_in fn fd tn td fo to r4 r5 true _ifn _ifd _itn _itd (Hr4.out ▸ pxbn_in (wrap64 ((wrap64 (2 * a)) - d)) (wrap64 (-(wrap64 (2 * b)))) (wrap64_in _) (wrap64_in _)) (Hr5.out ▸ pxbd_in (wrap64 ((wrap64 (2 * a)) - d)) (wrap64 (-(wrap64 (2 * b)))) (wrap64_in _) (wrap64_in _))) (Hr7.out ▸ frfd_in fn fd tn td fo to r4 r5 true _ifn _ifd _itn _itd (Hr4.out ▸ pxbn_in (wrap64 ((wrap64 (2 * a)) - d)) (wrap64 (-(wrap64 (2 * b)))) (wrap64_in _) (wrap64_in _)) (Hr5.out ▸ pxbd_in (wrap64 ((wrap64 (2 * a)) - d)) (wrap64 (-(wrap64 (2 * b)))) (wrap64_in _) (wrap64_in _))) (Hr8.out ▸ frtn_in fn fd tn td fo to r4 r5 true _ifn _ifd _itn _itd (Hr4.out ▸ pxbn_in (wrap64 ((wrap64 (2 * a)) - d)) (wrap64 (-(wrap64 (2 * b)))) (wrap64_in _) (wrap64_in _)) (Hr5.out ▸ pxbd_in (wrap64 ((wrap64 (2 * a)) - d)) (wrap64 (-(wrap64 (2 * b)))) (wrap64_in _) (wrap64_in _))) (Hr9.out ▸ frtd_in fn fd tn td fo to r4 r5 true _ifn _ifd _itn _itd (Hr4.out ▸ pxbn_in (wrap64 ((wrap64 (2 * a)) - d)) (wrap64 (-(wrap64 (2 * b)))) (wrap64_in _) (wrap64_in _)) (Hr5.out ▸ pxbd_in (wrap64 ((wrap64 (2 * a)) - d)) (wrap64 (-(wrap64 (2 * b)))) (wrap64_in _) (wrap64_in _))) (Hr12.out ▸ pxbn_in (wrap64 ((wrap64 (2 * a)) - c)) (wrap64 (-(wrap64 (2 * b)))) (wrap64_in _) (wrap64_in _)) (Hr13.out ▸ pxbd_in (wrap64 ((wrap64 (2 * a)) - c)) (wrap64 (-(wrap64 (2 * b)))) (wrap64_in _) (wrap64_in _)) bp _ k1).mono ?_
      rintro e U4 ⟨rfl, hk_, hn⟩
      replace k1 := hk_
      clear hk_
      replace hb0 := hb0.trans hn
      clear hn
      have e0 : true = R0 := by rw [← HR0.out]; unfold bak; (try rw [hz1]); (try rw [hz2]); (try rw [Hr4.out]); (try rw [Hr5.out]); (try rw [Hr6.out]); (try rw [Hr7.out]); (try rw [Hr8.out]); (try rw [Hr9.out]); (try rw [Hz10.out]); (try rw [Hz11.out]); (try rw [Hr12.out]); (try rw [Hr13.out]); (try rw [Hr14.out]); (try rw [Hr15.out]); (try rw [Hr16.out]); (try rw [Hr17.out]); (try rw [Hz18.out]); (try rw [Hz19.out]); all_goals first | rfl | simp
      have e1 : r14 = R1 := by rw [← HR1.out]; unfold bafn; (try rw [hz1]); (try rw [hz2]); (try rw [Hr4.out]); (try rw [Hr5.out]); (try rw [Hr6.out]); (try rw [Hr7.out]); (try rw [Hr8.out]); (try rw [Hr9.out]); (try rw [Hz10.out]); (try rw [Hz11.out]); (try rw [Hr12.out]); (try rw [Hr13.out]); (try rw [Hr14.out]); (try rw [Hr15.out]); (try rw [Hr16.out]); (try rw [Hr17.out]); (try rw [Hz18.out]); (try rw [Hz19.out]); all_goals first | rfl | simp
      have e2 : r15 = R2 := by rw [← HR2.out]; unfold bafd; (try rw [hz1]); (try rw [hz2]); (try rw [Hr4.out]); (try rw [Hr5.out]); (try rw [Hr6.out]); (try rw [Hr7.out]); (try rw [Hr8.out]); (try rw [Hr9.out]); (try rw [Hz10.out]); (try rw [Hz11.out]); (try rw [Hr12.out]); (try rw [Hr13.out]); (try rw [Hr14.out]); (try rw [Hr15.out]); (try rw [Hr16.out]); (try rw [Hr17.out]); (try rw [Hz18.out]); (try rw [Hz19.out]); all_goals first | rfl | simp
      have e3 : r16 = R3 := by rw [← HR3.out]; unfold batn; (try rw [hz1]); (try rw [hz2]); (try rw [Hr4.out]); (try rw [Hr5.out]); (try rw [Hr6.out]); (try rw [Hr7.out]); (try rw [Hr8.out]); (try rw [Hr9.out]); (try rw [Hz10.out]); (try rw [Hz11.out]); (try rw [Hr12.out]); (try rw [Hr13.out]); (try rw [Hr14.out]); (try rw [Hr15.out]); (try rw [Hr16.out]); (try rw [Hr17.out]); (try rw [Hz18.out]); (try rw [Hz19.out]); all_goals first | rfl | simp
      have e4 : r17 = R4 := by rw [← HR4.out]; unfold batd; (try rw [hz1]); (try rw [hz2]); (try rw [Hr4.out]); (try rw [Hr5.out]); (try rw [Hr6.out]); (try rw [Hr7.out]); (try rw [Hr8.out]); (try rw [Hr9.out]); (try rw [Hz10.out]); (try rw [Hz11.out]); (try rw [Hr12.out]); (try rw [Hr13.out]); (try rw [Hr14.out]); (try rw [Hr15.out]); (try rw [Hr16.out]); (try rw [Hr17.out]); (try rw [Hz18.out]); (try rw [Hz19.out]); all_goals first | rfl | simp
      have e5 : z18 = R5 := by rw [← HR5.out]; unfold bafo; (try rw [hz1]); (try rw [hz2]); (try rw [Hr4.out]); (try rw [Hr5.out]); (try rw [Hr6.out]); (try rw [Hr7.out]); (try rw [Hr8.out]); (try rw [Hr9.out]); (try rw [Hz10.out]); (try rw [Hz11.out]); (try rw [Hr12.out]); (try rw [Hr13.out]); (try rw [Hr14.out]); (try rw [Hr15.out]); (try rw [Hr16.out]); (try rw [Hr17.out]); (try rw [Hz18.out]); (try rw [Hz19.out]); all_goals first | rfl | simp
      have e6 : z19 = R6 := by rw [← HR6.out]; unfold bato; (try rw [hz1]); (try rw [hz2]); (try rw [Hr4.out]); (try rw [Hr5.out]); (try rw [Hr6.out]); (try rw [Hr7.out]); (try rw [Hr8.out]); (try rw [Hr9.out]); (try rw [Hz10.out]); (try rw [Hz11.out]); (try rw [Hr12.out]); (try rw [Hr13.out]); (try rw [Hr14.out]); (try rw [Hr15.out]); (try rw [Hr16.out]); (try rw [Hr17.out]); (try rw [Hz18.out]); (try rw [Hz19.out]); all_goals first | rfl | simp
      subst e0
      subst e1
      subst e2
      subst e3
      subst e4
      subst e5
      subst e6
      go_wp2
      first | go_ret | go_ret2
      exact ⟨by first | rfl | simp, k1, hb0⟩
  · go_enter Try.func93, Try.ntmps93
    go_wp2_with fail
    obtain ⟨r20, hr20⟩ : ∃ o_o : Int, pxbn (wrap64 (c - (wrap64 (2 * a)))) (wrap64 (2 * b)) = o_o := ⟨_, rfl⟩
    have Hr20 := Lib.hid hr20
    clear hr20
    obtain ⟨r21, hr21⟩ : ∃ o_o : Int, pxbd (wrap64 (c - (wrap64 (2 * a)))) (wrap64 (2 * b)) = o_o := ⟨_, rfl⟩
    have Hr21 := Lib.hid hr21
    clear hr21
    refine (pxbd_is (wrap64 (c - (wrap64 (2 * a)))) (wrap64 (2 * b)) r20 r21 Hr20.out Hr21.out (wrap64_in _) (wrap64_in _)  _).mono ?_
    rintro e U5 ⟨rfl, hn⟩
    replace k1 := k1.of hn
    have hb0 := hn.mono (Nat.le_of_lt HBL.out)
    clear hn
    go_wp2_with fail
    obtain ⟨r22, hr22⟩ : ∃ o_o : Int, frfn fn fd tn td fo to r20 r21 false = o_o := ⟨_, rfl⟩
    have Hr22 := Lib.hid hr22
    clear hr22
    obtain ⟨r23, hr23⟩ : ∃ o_o : Int, frfd fn fd tn td fo to r20 r21 false = o_o := ⟨_, rfl⟩
    have Hr23 := Lib.hid hr23
    clear hr23
    obtain ⟨r24, hr24⟩ : ∃ o_o : Int, frtn fn fd tn td fo to r20 r21 false = o_o := ⟨_, rfl⟩
    have Hr24 := Lib.hid hr24
    clear hr24
    obtain ⟨r25, hr25⟩ : ∃ o_o : Int, frtd fn fd tn td fo to r20 r21 false = o_o := ⟨_, rfl⟩
    have Hr25 := Lib.hid hr25
    clear hr25
    obtain ⟨z26, hz26⟩ : ∃ o_o : Bool, frfo fn fd tn td fo to r20 r21 false = o_o := ⟨_, rfl⟩
    have Hz26 := Lib.hid hz26
    clear hz26
    obtain ⟨z27, hz27⟩ : ∃ o_o : Bool, frto fn fd tn td fo to r20 r21 false = o_o := ⟨_, rfl⟩
    have Hz27 := Lib.hid hz27
    clear hz27
    refine (pxfr_is fn fd tn td fo to r20 r21 false r22 r23 r24 r25 z26 z27 Hr22.out Hr23.out Hr24.out Hr25.out Hz26.out Hz27.out _ifn _ifd _itn _itd (Hr20.out ▸ pxbn_in (wrap64 (c - (wrap64 (2 * a)))) (wrap64 (2 * b)) (wrap64_in _) (wrap64_in _)) (Hr21.out ▸ pxbd_in (wrap64 (c - (wrap64 (2 * a)))) (wrap64 (2 * b)) (wrap64_in _) (wrap64_in _)) bp _ k1).mono ?_
    rintro e U6 ⟨rfl, hk_, hn⟩
    replace k1 := hk_
    clear hk_
    replace hb0 := hb0.trans hn
    clear hn
    go_wp2_with fail
    obtain ⟨r28, hr28⟩ : ∃ o_o : Int, pxbn (wrap64 (d - (wrap64 (2 * a)))) (wrap64 (2 * b)) = o_o := ⟨_, rfl⟩
    have Hr28 := Lib.hid hr28
    clear hr28
    obtain ⟨r29, hr29⟩ : ∃ o_o : Int, pxbd (wrap64 (d - (wrap64 (2 * a)))) (wrap64 (2 * b)) = o_o := ⟨_, rfl⟩
    have Hr29 := Lib.hid hr29
    clear hr29
    refine (pxbd_is (wrap64 (d - (wrap64 (2 * a)))) (wrap64 (2 * b)) r28 r29 Hr28.out Hr29.out (wrap64_in _) (wrap64_in _)  _).mono ?_
    rintro e U7 ⟨rfl, hn⟩
    replace k1 := k1.of hn
    replace hb0 := hb0.trans (hn.mono (Nat.le_trans (Nat.le_of_lt HBL.out) hb0.size))
    clear hn
    go_wp2_with fail
    obtain ⟨r30, hr30⟩ : ∃ o_o : Int, tofn r22 r23 r24 r25 z26 z27 r28 r29 true = o_o := ⟨_, rfl⟩
    have Hr30 := Lib.hid hr30
    clear hr30
    obtain ⟨r31, hr31⟩ : ∃ o_o : Int, tofd r22 r23 r24 r25 z26 z27 r28 r29 true = o_o := ⟨_, rfl⟩
    have Hr31 := Lib.hid hr31
    clear hr31
    obtain ⟨r32, hr32⟩ : ∃ o_o : Int, totn r22 r23 r24 r25 z26 z27 r28 r29 true = o_o := ⟨_, rfl⟩
    have Hr32 := Lib.hid hr32
    clear hr32
    obtain ⟨r33, hr33⟩ : ∃ o_o : Int, totd r22 r23 r24 r25 z26 z27 r28 r29 true = o_o := ⟨_, rfl⟩
    have Hr33 := Lib.hid hr33
    clear hr33
    obtain ⟨z34, hz34⟩ : ∃ o_o : Bool, tofo r22 r23 r24 r25 z26 z27 r28 r29 true = o_o := ⟨_, rfl⟩
    have Hz34 := Lib.hid hz34
    clear hz34
    obtain ⟨z35, hz35⟩ : ∃ o_o : Bool, toto r22 r23 r24 r25 z26 z27 r28 r29 true = o_o := ⟨_, rfl⟩
    have Hz35 := Lib.hid hz35
    clear hz35
    refine (pxto_is r22 r23 r24 r25 z26 z27 r28 r29 true r30 r31 r32 r33 z34 z35 Hr30.out Hr31.out Hr32.out Hr33.out Hz34.out Hz35.out (Hr22.out ▸ frfn_in fn fd tn td fo to r20 r21 false _ifn _ifd _itn _itd (Hr20.out ▸ pxbn_in (wrap64 (c - (wrap64 (2 * a)))) (wrap64 (2 * b)) (wrap64_in _) (wrap64_in _)) (Hr21.out ▸ pxbd_in (wrap64 (c - (wrap64 (2 * a)))) (wrap64 (2 * b)) (wrap64_in _) (wrap64_in _))) (Hr23.out ▸ frfd_in fn fd tn td fo to r20 r21 false _ifn _ifd _itn _itd (Hr20.out ▸ pxbn_in (wrap64 (c - (wrap64 (2 * a)))) (wrap64 (2 * b)) (wrap64_in _) (wrap64_in _)) (Hr21.out ▸ pxbd_in (wrap64 (c - (wrap64 (2 * a)))) (wrap64 (2 * b)) (wrap64_in _) (wrap64_in _))) (Hr24.out ▸ frtn_in fn fd tn td fo to r20 r21 false _ifn _ifd _itn _itd (Hr20.out ▸ pxbn_in (wrap64 (c - (wrap64 (2 * a)))) (wrap64 (2 * b)) (wrap64_in _) (wrap64_in _)) (Hr21.out ▸ pxbd_in (wrap64 (c - (wrap64 (2 * a)))) (wrap64 (2 * b)) (wrap64_in _) (wrap64_in _))) (Hr25.out ▸ frtd_in fn fd tn td fo to r20 r21 false _ifn _ifd _itn _itd (Hr20.out ▸ pxbn_in (wrap64 (c - (wrap64 (2 * a)))) (wrap64 (2 * b)) (wrap64_in _) (wrap64_in _)) (Hr21.out ▸ pxbd_in (wrap64 (c - (wrap64 (2 * a)))) (wrap64 (2 * b)) (wrap64_in _) (wrap64_in _))) (Hr28.out ▸ pxbn_in (wrap64 (d - (wrap64 (2 * a)))) (wrap64 (2 * b)) (wrap64_in _) (wrap64_in _)) (Hr29.out ▸ pxbd_in (wrap64 (d - (wrap64 (2 * a)))) (wrap64 (2 * b)) (wrap64_in _) (wrap64_in _)) bp _ k1).mono ?_
    rintro e U8 ⟨rfl, hk_, hn⟩
    replace k1 := hk_
    clear hk_
    replace hb0 := hb0.trans hn
    clear hn
    have e0 : true = R0 := by rw [← HR0.out]; unfold bak; (try rw [hz1]); (try rw [Hr20.out]); (try rw [Hr21.out]); (try rw [Hr22.out]); (try rw [Hr23.out]); (try rw [Hr24.out]); (try rw [Hr25.out]); (try rw [Hz26.out]); (try rw [Hz27.out]); (try rw [Hr28.out]); (try rw [Hr29.out]); (try rw [Hr30.out]); (try rw [Hr31.out]); (try rw [Hr32.out]); (try rw [Hr33.out]); (try rw [Hz34.out]); (try rw [Hz35.out]); all_goals first | rfl | simp
    have e1 : r30 = R1 := by rw [← HR1.out]; unfold bafn; (try rw [hz1]); (try rw [Hr20.out]); (try rw [Hr21.out]); (try rw [Hr22.out]); (try rw [Hr23.out]); (try rw [Hr24.out]); (try rw [Hr25.out]); (try rw [Hz26.out]); (try rw [Hz27.out]); (try rw [Hr28.out]); (try rw [Hr29.out]); (try rw [Hr30.out]); (try rw [Hr31.out]); (try rw [Hr32.out]); (try rw [Hr33.out]); (try rw [Hz34.out]); (try rw [Hz35.out]); all_goals first | rfl | simp
    have e2 : r31 = R2 := by rw [← HR2.out]; unfold bafd; (try rw [hz1]); (try rw [Hr20.out]); (try rw [Hr21.out]); (try rw [Hr22.out]); (try rw [Hr23.out]); (try rw [Hr24.out]); (try rw [Hr25.out]); (try rw [Hz26.out]); (try rw [Hz27.out]); (try rw [Hr28.out]); (try rw [Hr29.out]); (try rw [Hr30.out]); (try rw [Hr31.out]); (try rw [Hr32.out]); (try rw [Hr33.out]); (try rw [Hz34.out]); (try rw [Hz35.out]); all_goals first | rfl | simp
    have e3 : r32 = R3 := by rw [← HR3.out]; unfold batn; (try rw [hz1]); (try rw [Hr20.out]); (try rw [Hr21.out]); (try rw [Hr22.out]); (try rw [Hr23.out]); (try rw [Hr24.out]); (try rw [Hr25.out]); (try rw [Hz26.out]); (try rw [Hz27.out]); (try rw [Hr28.out]); (try rw [Hr29.out]); (try rw [Hr30.out]); (try rw [Hr31.out]); (try rw [Hr32.out]); (try rw [Hr33.out]); (try rw [Hz34.out]); (try rw [Hz35.out]); all_goals first | rfl | simp
    have e4 : r33 = R4 := by rw [← HR4.out]; unfold batd; (try rw [hz1]); (try rw [Hr20.out]); (try rw [Hr21.out]); (try rw [Hr22.out]); (try rw [Hr23.out]); (try rw [Hr24.out]); (try rw [Hr25.out]); (try rw [Hz26.out]); (try rw [Hz27.out]); (try rw [Hr28.out]); (try rw [Hr29.out]); (try rw [Hr30.out]); (try rw [Hr31.out]); (try rw [Hr32.out]); (try rw [Hr33.out]); (try rw [Hz34.out]); (try rw [Hz35.out]); all_goals first | rfl | simp
    have e5 : z34 = R5 := by rw [← HR5.out]; unfold bafo; (try rw [hz1]); (try rw [Hr20.out]); (try rw [Hr21.out]); (try rw [Hr22.out]); (try rw [Hr23.out]); (try rw [Hr24.out]); (try rw [Hr25.out]); (try rw [Hz26.out]); (try rw [Hz27.out]); (try rw [Hr28.out]); (try rw [Hr29.out]); (try rw [Hr30.out]); (try rw [Hr31.out]); (try rw [Hr32.out]); (try rw [Hr33.out]); (try rw [Hz34.out]); (try rw [Hz35.out]); all_goals first | rfl | simp
    have e6 : z35 = R6 := by rw [← HR6.out]; unfold bato; (try rw [hz1]); (try rw [Hr20.out]); (try rw [Hr21.out]); (try rw [Hr22.out]); (try rw [Hr23.out]); (try rw [Hr24.out]); (try rw [Hr25.out]); (try rw [Hz26.out]); (try rw [Hz27.out]); (try rw [Hr28.out]); (try rw [Hr29.out]); (try rw [Hr30.out]); (try rw [Hr31.out]); (try rw [Hr32.out]); (try rw [Hr33.out]); (try rw [Hz34.out]); (try rw [Hz35.out]); all_goals first | rfl | simp
    subst e0
    subst e1
    subst e2
    subst e3
    subst e4
    subst e5
    subst e6
    go_wp2
    first | go_ret | go_ret2
    exact ⟨by first | rfl | simp, k1, hb0⟩
end Go.Proofs.Ytlcbomjdbdgbmaa

namespace Go.Proofs.Ytlcbomjdbdgbmaa
open Go.RowKit


theorem L2 {a b c d p q : Int} (hd : 0 < d) (hb : 0 < b) (hq : 0 < q) (h : a * d ≤ c * b) (k : c * q ≤ p * d) : a * q ≤ p * b := by
  apply Int.le_of_mul_le_mul_right _ hd
  have h1 := Int.mul_le_mul_of_nonneg_right h (Int.le_of_lt hq)
  have h2 := Int.mul_le_mul_of_nonneg_right k (Int.le_of_lt hb)
  have e1 : a * d * q = a * q * d := by grind
  have e2 : c * b * q = c * q * b := by grind
  have e3 : p * d * b = p * b * d := by grind
  omega
theorem L1 {a b c d p q : Int} (hd : 0 < d) (hb : 0 < b) (hq : 0 < q) (h : a * d < c * b) (k : c * q ≤ p * d) : a * q < p * b := by
  apply Int.lt_of_mul_lt_mul_right _ (Int.le_of_lt hd)
  have h1 := Int.mul_lt_mul_of_pos_right h hq
  have h2 := Int.mul_le_mul_of_nonneg_right k (Int.le_of_lt hb)
  have e1 : a * d * q = a * q * d := by grind
  have e2 : c * b * q = c * q * b := by grind
  have e3 : p * d * b = p * b * d := by grind
  omega
theorem L3 {a b c d p q : Int} (hd : 0 < d) (hb : 0 < b) (hq : 0 < q) (h : a * d ≤ c * b) (k : c * q < p * d) : a * q < p * b := by
  apply Int.lt_of_mul_lt_mul_right _ (Int.le_of_lt hd)
  have h1 := Int.mul_le_mul_of_nonneg_right h (Int.le_of_lt hq)
  have h2 := Int.mul_lt_mul_of_pos_right k hb
  have e1 : a * d * q = a * q * d := by grind
  have e2 : c * b * q = c * q * b := by grind
  have e3 : p * d * b = p * b * d := by grind
  omega

/-- p / q isn't ahead of n / d; if that is open: it is behind it -/
def inF (n d : Int) (o : Bool) (p q : Int) : Prop := if o then n * q < p * d else n * q ≤ p * d
def inT (n d : Int) (o : Bool) (p q : Int) : Prop := if o then p * d < n * q else p * d ≤ n * q
theorem inF_le {n d p q : Int} {o : Bool} (h : inF n d o p q) : n * q ≤ p * d := by unfold inF at h; cases o <;> simp at h <;> omega
theorem inF_of {n d p q : Int} (o : Bool) (h : n * q < p * d) : inF n d o p q := by unfold inF; cases o <;> simp <;> omega
theorem inT_F (n d : Int) (o : Bool) (p q : Int) : inT n d o p q ↔ inF (-n) d o (-p) q := by
  unfold inT inF
  rw [Int.neg_mul, Int.neg_mul]
  cases o <;> simp <;> omega
theorem cmb_lt {n d x y p q : Int} {o u : Bool} (hd : 0 < d) (hy : 0 < y) (hq : 0 < q) (h : n * y < x * d) : (inF n d o p q ∧ inF x y u p q) ↔ inF x y u p q :=
  ⟨fun k => k.2, fun k => ⟨inF_of _ (L1 hy hd hq h (inF_le k)), k⟩⟩
theorem cmb_gt {n d x y p q : Int} {o u : Bool} (hd : 0 < d) (hy : 0 < y) (hq : 0 < q) (h : x * d < n * y) : (inF n d o p q ∧ inF x y u p q) ↔ inF n d o p q :=
  ⟨fun k => k.1, fun k => ⟨k, inF_of _ (L1 hd hy hq h (inF_le k))⟩⟩
theorem cmb_eq {n d x y p q : Int} {o u : Bool} (hd : 0 < d) (hy : 0 < y) (hq : 0 < q) (h : x * d = n * y) : (inF n d o p q ∧ inF x y u p q) ↔ inF n d (o || u) p q := by
  have h1 : n * q ≤ p * d ↔ x * q ≤ p * y := ⟨fun k => L2 hd hy hq (by omega) k, fun k => L2 hy hd hq (by omega) k⟩
  have h2 : n * q < p * d ↔ x * q < p * y := ⟨fun k => L3 hd hy hq (by omega) k, fun k => L3 hy hd hq (by omega) k⟩
  unfold inF
  cases o <;> cases u <;> simp <;> omega
theorem cmt_lt {n d x y p q : Int} {o u : Bool} (hd : 0 < d) (hy : 0 < y) (hq : 0 < q) (h : x * d < n * y) : (inT n d o p q ∧ inT x y u p q) ↔ inT x y u p q := by
  rw [inT_F, inT_F]; exact cmb_lt hd hy hq (by rw [Int.neg_mul, Int.neg_mul]; omega)
theorem cmt_gt {n d x y p q : Int} {o u : Bool} (hd : 0 < d) (hy : 0 < y) (hq : 0 < q) (h : n * y < x * d) : (inT n d o p q ∧ inT x y u p q) ↔ inT n d o p q := by
  rw [inT_F, inT_F]; exact cmb_gt hd hy hq (by rw [Int.neg_mul, Int.neg_mul]; omega)
theorem cmt_eq {n d x y p q : Int} {o u : Bool} (hd : 0 < d) (hy : 0 < y) (hq : 0 < q) (h : x * d = n * y) : (inT n d o p q ∧ inT x y u p q) ↔ inT n d (o || u) p q := by
  rw [inT_F, inT_F, inT_F]; exact cmb_eq hd hy hq (by rw [Int.neg_mul, Int.neg_mul]; omega)

/-- between two fractions, or at them -/
theorem mid_in {n d x y : Int} {o u : Bool} (hd : 0 < d) (hy : 0 < y) (h : n * y < x * d) : inF n d o (n * y + x * d) (2 * (d * y)) ∧ inT x y u (n * y + x * d) (2 * (d * y)) := by
  have k1 : n * (2 * (d * y)) < (n * y + x * d) * d := by
    have := Int.mul_lt_mul_of_pos_right h hd
    have e : n * (2 * (d * y)) = n * y * d + n * y * d := by grind
    have e2 : (n * y + x * d) * d = n * y * d + x * d * d := by grind
    omega
  have k2 : (n * y + x * d) * y < x * (2 * (d * y)) := by
    have := Int.mul_lt_mul_of_pos_right h hy
    have e : x * (2 * (d * y)) = x * d * y + x * d * y := by grind
    have e2 : (n * y + x * d) * y = n * y * y + x * d * y := by grind
    omega
  refine ⟨inF_of _ k1, ?_⟩
  unfold inT
  cases u <;> simp <;> omega
theorem at_in {n d x y : Int} (_hd : 0 < d) (_hy : 0 < y) (h : n * y = x * d) : inF n d false n d ∧ inT x y false n d := by
  unfold inF inT; simp; omega
/-- there is none -/
theorem none_in {n d x y p q : Int} {o u : Bool} (hd : 0 < d) (hy : 0 < y) (hq : 0 < q) (h : x * d < n * y ∨ (x * d = n * y ∧ (o = true ∨ u = true))) : ¬ (inF n d o p q ∧ inT x y u p q) := by
  rintro ⟨h1, h2⟩
  have k1 := inF_le h1
  have k2 : p * y ≤ x * q := by unfold inT at h2; cases u <;> simp at h2 <;> omega
  rcases h with h | ⟨h, h3⟩
  · have := L1 hd hy hq h k1
    omega
  · rcases h3 with rfl | rfl
    · have k1' : n * q < p * d := by simpa [inF] using h1
      have := L3 hd hy hq (by omega : x * d ≤ n * y) k1'
      omega
    · have k2' : p * y < x * q := by simpa [inT] using h2
      have := L2 hd hy hq (by omega : x * d ≤ n * y) k1
      omega
def Bd (n d : Int) : Prop := -1180591620717411303424 ≤ n ∧ n ≤ 1180591620717411303424 ∧ 0 < d ∧ d ≤ 1125899906842624
theorem mulb {n y A B : Int} (h1 : -A ≤ n) (h2 : n ≤ A) (h3 : 0 ≤ y) (h4 : y ≤ B) (hA : 0 ≤ A) : -(A * B) ≤ n * y ∧ n * y ≤ A * B := by
  have a1 := Int.mul_le_mul_of_nonneg_right h2 h3
  have a2 := Int.mul_le_mul_of_nonneg_left h4 hA
  have a3 := Int.mul_le_mul_of_nonneg_right h1 h3
  rw [Int.neg_mul] at a3; omega
theorem bd_ok {n d x y : Int} (h : Bd n d) (k : Bd x y) : okI (n * y) = true := by
  obtain ⟨h1, h2, h3, h4⟩ := h
  obtain ⟨k1, k2, k3, k4⟩ := k
  have := mulb h1 h2 (Int.le_of_lt k3) k4 (by omega)
  unfold okI
  apply decide_eq_true
  unfold InI b255
  omega
theorem pxl_bd {n d x y : Int} (h : Bd n d) (k : Bd x y) : pxl n d x y = cmpI (n * y) (x * d) := by
  unfold pxl rtC rtCk
  rw [bd_ok h k, bd_ok k h, decide_eq_true h.2.2.1, decide_eq_true k.2.2.1]
  rfl
def InS (fn fd tn td : Int) (fo to : Bool) (p q : Int) : Prop := inF fn fd fo p q ∧ inT tn td to p q
def BS (fn fd tn td : Int) : Prop := Bd fn fd ∧ Bd tn td
theorem cmpI_cases (x y : Int) : (x < y ∧ cmpI x y = -1) ∨ (x = y ∧ cmpI x y = 0) ∨ (y < x ∧ cmpI x y = 1) := by
  rcases Int.lt_trichotomy x y with h | h | h
  · exact .inl ⟨h, cmpI_lt h⟩
  · exact .inr (.inl ⟨h, by rw [h]; exact cmpI_eq _⟩)
  · exact .inr (.inr ⟨h, cmpI_gt h⟩)
theorem fr_sp {fn fd tn td x y : Int} (fo to o : Bool) (hS : BS fn fd tn td) (hx : Bd x y) :
    BS (frfn fn fd tn td fo to x y o) (frfd fn fd tn td fo to x y o) (frtn fn fd tn td fo to x y o) (frtd fn fd tn td fo to x y o) ∧
    ∀ p q, 0 < q → (InS (frfn fn fd tn td fo to x y o) (frfd fn fd tn td fo to x y o) (frtn fn fd tn td fo to x y o) (frtd fn fd tn td fo to x y o) (frfo fn fd tn td fo to x y o) (frto fn fd tn td fo to x y o) p q ↔ InS fn fd tn td fo to p q ∧ inF x y o p q) := by
  unfold frfn frfd frtn frtd frfo frto InS BS
  rw [pxl_bd hx hS.1]
  have hfd := hS.1.2.2.1
  have hy := hx.2.2.1
  have sw (p q : Int) : (inF fn fd fo p q ∧ inT tn td to p q) ∧ inF x y o p q ↔ (inF fn fd fo p q ∧ inF x y o p q) ∧ inT tn td to p q := by
    constructor <;> (intro h; simp only [h, and_self])
  rcases cmpI_cases (x * fd) (fn * y) with ⟨h, e⟩ | ⟨h, e⟩ | ⟨h, e⟩ <;> rw [e]
  · refine ⟨⟨hS.1, hS.2⟩, fun p q hq => ?_⟩
    rw [sw, cmb_gt hfd hy hq h]; exact Iff.rfl
  · refine ⟨⟨hS.1, hS.2⟩, fun p q hq => ?_⟩
    rw [sw, cmb_eq hfd hy hq h]
    cases fo <;> cases o <;> exact Iff.rfl
  · refine ⟨⟨hx, hS.2⟩, fun p q hq => ?_⟩
    rw [sw, cmb_lt hfd hy hq h]; exact Iff.rfl
theorem to_sp {fn fd tn td x y : Int} (fo to o : Bool) (hS : BS fn fd tn td) (hx : Bd x y) :
    BS (tofn fn fd tn td fo to x y o) (tofd fn fd tn td fo to x y o) (totn fn fd tn td fo to x y o) (totd fn fd tn td fo to x y o) ∧
    ∀ p q, 0 < q → (InS (tofn fn fd tn td fo to x y o) (tofd fn fd tn td fo to x y o) (totn fn fd tn td fo to x y o) (totd fn fd tn td fo to x y o) (tofo fn fd tn td fo to x y o) (toto fn fd tn td fo to x y o) p q ↔ InS fn fd tn td fo to p q ∧ inT x y o p q) := by
  unfold tofn tofd totn totd tofo toto InS BS
  rw [pxl_bd hx hS.2]
  have hfd := hS.2.2.2.1
  have hy := hx.2.2.1
  have sw (p q : Int) : (inF fn fd fo p q ∧ inT tn td to p q) ∧ inT x y o p q ↔ inF fn fd fo p q ∧ (inT tn td to p q ∧ inT x y o p q) := and_assoc
  rcases cmpI_cases (x * td) (tn * y) with ⟨h, e⟩ | ⟨h, e⟩ | ⟨h, e⟩ <;> rw [e]
  · refine ⟨⟨hS.1, hx⟩, fun p q hq => ?_⟩
    rw [sw, cmt_lt hfd hy hq h]; exact Iff.rfl
  · refine ⟨⟨hS.1, hS.2⟩, fun p q hq => ?_⟩
    rw [sw, cmt_eq hfd hy hq h]
    cases to <;> cases o <;> exact Iff.rfl
  · refine ⟨⟨hS.1, hS.2⟩, fun p q hq => ?_⟩
    rw [sw, cmt_gt hfd hy hq h]; exact Iff.rfl
/-- what a band asks -/
def inB (a b c d p q : Int) : Prop := c * q ≤ 2 * a * q + 2 * b * p ∧ 2 * a * q + 2 * b * p < d * q
def BdB (a b c d : Int) : Prop := -4398046511104 ≤ a ∧ a ≤ 4398046511104 ∧ -4398046511104 ≤ b ∧ b ≤ 4398046511104 ∧ -4611686018428436480 ≤ c ∧ c ≤ 4611686018428436480 ∧ -4611686018428436480 ≤ d ∧ d ≤ 4611686018428436480
theorem w64_id {x : Int} (h : -9223372036854775808 ≤ x) (k : x ≤ 9223372036854775807) : wrap64 x = x := wrap64_id (by unfold In64; omega)
theorem ba_sp {fn fd tn td a b c d : Int} (fo to : Bool) (hS : BS fn fd tn td) (hB : BdB a b c d) :
    (bak fn fd tn td fo to a b c d = true → BS (bafn fn fd tn td fo to a b c d) (bafd fn fd tn td fo to a b c d) (batn fn fd tn td fo to a b c d) (batd fn fd tn td fo to a b c d) ∧
      ∀ p q, 0 < q → (InS (bafn fn fd tn td fo to a b c d) (bafd fn fd tn td fo to a b c d) (batn fn fd tn td fo to a b c d) (batd fn fd tn td fo to a b c d) (bafo fn fd tn td fo to a b c d) (bato fn fd tn td fo to a b c d) p q ↔ InS fn fd tn td fo to p q ∧ inB a b c d p q)) ∧
    (bak fn fd tn td fo to a b c d = false → ∀ p q, 0 < q → ¬ inB a b c d p q) := by
  obtain ⟨h1, h2, h3, h4, h5, h6, h7, h8⟩ := hB
  have ea : wrap64 (2 * a) = 2 * a := w64_id (by omega) (by omega)
  have eb : wrap64 (2 * b) = 2 * b := w64_id (by omega) (by omega)
  have en : wrap64 (-(2 * b)) = -(2 * b) := w64_id (by omega) (by omega)
  have e1 : wrap64 (c - 2 * a) = c - 2 * a := w64_id (by omega) (by omega)
  have e2 : wrap64 (d - 2 * a) = d - 2 * a := w64_id (by omega) (by omega)
  have e3 : wrap64 (2 * a - c) = 2 * a - c := w64_id (by omega) (by omega)
  have e4 : wrap64 (2 * a - d) = 2 * a - d := w64_id (by omega) (by omega)
  unfold bak bafn bafd batn batd bafo bato pxbn pxbd
  rw [ea, eb, en, e1, e2, e3, e4]
  rcases Int.lt_trichotomy b 0 with hb | hb | hb
  · rw [decide_eq_false (by omega : ¬ 0 < 2 * b), decide_eq_true (by omega : 2 * b < 0)]
    simp only [cond_false, cond_true]
    refine ⟨fun _ => ?_, fun h => by simp at h⟩
    have x1 : Bd (2 * a - d) (-(2 * b)) := ⟨by omega, by omega, by omega, by omega⟩
    have x2 : Bd (2 * a - c) (-(2 * b)) := ⟨by omega, by omega, by omega, by omega⟩
    have s1 := fr_sp fo to true hS x1
    have s2 := to_sp (frfo fn fd tn td fo to (2 * a - d) (-(2 * b)) true) (frto fn fd tn td fo to (2 * a - d) (-(2 * b)) true) false s1.1 x2
    refine ⟨s2.1, fun p q hq => ?_⟩
    rw [s2.2 p q hq, s1.2 p q hq, and_assoc]
    have : inF (2 * a - d) (-(2 * b)) true p q ∧ inT (2 * a - c) (-(2 * b)) false p q ↔ inB a b c d p q := by
      unfold inF inT inB
      have g1 : (2 * a - d) * q = 2 * a * q - d * q := by grind
      have g2 : (2 * a - c) * q = 2 * a * q - c * q := by grind
      have g3 : p * (-(2 * b)) = -(2 * b * p) := by grind
      rw [g1, g2, g3]
      simp only [if_true, Bool.false_eq_true, if_false]
      omega
    rw [this]
  · subst hb
    simp only [Int.mul_zero, Int.lt_irrefl, decide_false, cond_false]
    have z (p q : Int) : inB a 0 c d p q ↔ c * q ≤ 2 * a * q ∧ 2 * a * q < d * q := by unfold inB; simp
    constructor
    · intro h
      refine ⟨hS, fun p q hq => ?_⟩
      have h' : c ≤ 2 * a ∧ 2 * a < d := by
        cases hc : decide (c ≤ 2 * a) <;> rw [hc] at h <;> simp at h hc
        exact ⟨hc, h⟩
      have t1 := Int.mul_le_mul_of_nonneg_right h'.1 (Int.le_of_lt hq)
      have t2 := Int.mul_lt_mul_of_pos_right h'.2 hq
      rw [z]
      exact ⟨fun k => ⟨k, t1, t2⟩, fun k => k.1⟩
    · intro h p q hq
      rw [z]
      rintro ⟨t1, t2⟩
      have t1' := Int.le_of_mul_le_mul_right t1 hq
      have t2' := Int.lt_of_mul_lt_mul_right t2 (Int.le_of_lt hq)
      rw [decide_eq_true t1', decide_eq_true t2'] at h
      simp at h
  · rw [decide_eq_true (by omega : 0 < 2 * b)]
    simp only [cond_true]
    refine ⟨fun _ => ?_, fun h => by simp at h⟩
    have x1 : Bd (c - 2 * a) (2 * b) := ⟨by omega, by omega, by omega, by omega⟩
    have x2 : Bd (d - 2 * a) (2 * b) := ⟨by omega, by omega, by omega, by omega⟩
    have s1 := fr_sp fo to false hS x1
    have s2 := to_sp (frfo fn fd tn td fo to (c - 2 * a) (2 * b) false) (frto fn fd tn td fo to (c - 2 * a) (2 * b) false) true s1.1 x2
    refine ⟨s2.1, fun p q hq => ?_⟩
    rw [s2.2 p q hq, s1.2 p q hq, and_assoc]
    have : inF (c - 2 * a) (2 * b) false p q ∧ inT (d - 2 * a) (2 * b) true p q ↔ inB a b c d p q := by
      unfold inF inT inB
      have g1 : (d - 2 * a) * q = d * q - 2 * a * q := by grind
      have g2 : (c - 2 * a) * q = c * q - 2 * a * q := by grind
      have g3 : p * (2 * b) = 2 * b * p := by grind
      rw [g1, g2, g3]
      simp only [if_true, Bool.false_eq_true, if_false]
      omega
    rw [this]
/-- is something of it left -/
theorem sm_sp {fn fd tn td : Int} (fo to : Bool) (hS : BS fn fd tn td) :
    (smk_ fn fd tn td fo to = true → ∃ p q, 0 < q ∧ InS fn fd tn td fo to p q) ∧ (smk_ fn fd tn td fo to = false → ∀ p q, 0 < q → ¬ InS fn fd tn td fo to p q) := by
  have h1 := hS.1.2.2.1
  have h2 := hS.2.2.2.1
  unfold smk_ InS
  rw [pxl_bd hS.1 hS.2]
  rcases cmpI_cases (fn * td) (tn * fd) with ⟨h, e⟩ | ⟨h, e⟩ | ⟨h, e⟩ <;> rw [e]
  · refine ⟨fun _ => ⟨_, _, ?_, mid_in h1 h2 h⟩, fun k => by simp at k⟩
    have := Int.mul_pos h1 h2
    omega
  · constructor
    · intro k
      cases fo <;> cases to <;> simp at k
      exact ⟨_, _, h1, at_in h1 h2 h⟩
    · intro k p q hq
      refine none_in h1 h2 hq (.inr ⟨h.symm, ?_⟩)
      cases fo <;> cases to <;> simp at k ⊢
  · refine ⟨fun k => by simp at k, fun _ p q hq => none_in h1 h2 hq (.inl h)⟩
theorem smfo_eq (fn fd tn td : Int) (fo to : Bool) : smfo fn fd tn td fo to = fo := by
  unfold smfo
  cases decide (pxl fn fd tn td < 0) <;> cases (pxl fn fd tn td == 0) <;> cases fo <;> rfl
def cuL (c n : Int) : Int := wrap64 ((wrap64 ((wrap64 (2 * c)) * n)) - n)
def cuH (c n : Int) : Int := wrap64 ((wrap64 ((wrap64 (2 * c)) * n)) + n)
def c1k (ax bx cx n : Int) : Bool := bak 0 1 1 1 false false ax (wrap64 (bx - ax)) (cuL cx n) (cuH cx n)
def c1fn (ax bx cx n : Int) : Int := bafn 0 1 1 1 false false ax (wrap64 (bx - ax)) (cuL cx n) (cuH cx n)
def c1fd (ax bx cx n : Int) : Int := bafd 0 1 1 1 false false ax (wrap64 (bx - ax)) (cuL cx n) (cuH cx n)
def c1tn (ax bx cx n : Int) : Int := batn 0 1 1 1 false false ax (wrap64 (bx - ax)) (cuL cx n) (cuH cx n)
def c1td (ax bx cx n : Int) : Int := batd 0 1 1 1 false false ax (wrap64 (bx - ax)) (cuL cx n) (cuH cx n)
def c1fo (ax bx cx n : Int) : Bool := bafo 0 1 1 1 false false ax (wrap64 (bx - ax)) (cuL cx n) (cuH cx n)
def c1to (ax bx cx n : Int) : Bool := bato 0 1 1 1 false false ax (wrap64 (bx - ax)) (cuL cx n) (cuH cx n)
def c2k (ax ay bx b_y cx cy n : Int) : Bool := bak (c1fn ax bx cx n) (c1fd ax bx cx n) (c1tn ax bx cx n) (c1td ax bx cx n) (c1fo ax bx cx n) (c1to ax bx cx n) ay (wrap64 (b_y - ay)) (cuL cy n) (cuH cy n)
def c2fn (ax ay bx b_y cx cy n : Int) : Int := bafn (c1fn ax bx cx n) (c1fd ax bx cx n) (c1tn ax bx cx n) (c1td ax bx cx n) (c1fo ax bx cx n) (c1to ax bx cx n) ay (wrap64 (b_y - ay)) (cuL cy n) (cuH cy n)
def c2fd (ax ay bx b_y cx cy n : Int) : Int := bafd (c1fn ax bx cx n) (c1fd ax bx cx n) (c1tn ax bx cx n) (c1td ax bx cx n) (c1fo ax bx cx n) (c1to ax bx cx n) ay (wrap64 (b_y - ay)) (cuL cy n) (cuH cy n)
def c2tn (ax ay bx b_y cx cy n : Int) : Int := batn (c1fn ax bx cx n) (c1fd ax bx cx n) (c1tn ax bx cx n) (c1td ax bx cx n) (c1fo ax bx cx n) (c1to ax bx cx n) ay (wrap64 (b_y - ay)) (cuL cy n) (cuH cy n)
def c2td (ax ay bx b_y cx cy n : Int) : Int := batd (c1fn ax bx cx n) (c1fd ax bx cx n) (c1tn ax bx cx n) (c1td ax bx cx n) (c1fo ax bx cx n) (c1to ax bx cx n) ay (wrap64 (b_y - ay)) (cuL cy n) (cuH cy n)
def c2fo (ax ay bx b_y cx cy n : Int) : Bool := bafo (c1fn ax bx cx n) (c1fd ax bx cx n) (c1tn ax bx cx n) (c1td ax bx cx n) (c1fo ax bx cx n) (c1to ax bx cx n) ay (wrap64 (b_y - ay)) (cuL cy n) (cuH cy n)
def c2to (ax ay bx b_y cx cy n : Int) : Bool := bato (c1fn ax bx cx n) (c1fd ax bx cx n) (c1tn ax bx cx n) (c1td ax bx cx n) (c1fo ax bx cx n) (c1to ax bx cx n) ay (wrap64 (b_y - ay)) (cuL cy n) (cuH cy n)
def cuk (ax ay bx b_y cx cy n : Int) : Bool := bif pxS n then (bif sgR ax ay bx b_y then (bif rp cx cy then (bif c1k ax bx cx n then (bif c2k ax ay bx b_y cx cy n then smk_ (c2fn ax ay bx b_y cx cy n) (c2fd ax ay bx b_y cx cy n) (c2tn ax ay bx b_y cx cy n) (c2td ax ay bx b_y cx cy n) (c2fo ax ay bx b_y cx cy n) (c2to ax ay bx b_y cx cy n) else false) else false) else false) else false) else false
def cufn (ax ay bx b_y cx cy n : Int) : Int := bif cuk ax ay bx b_y cx cy n then smfn (c2fn ax ay bx b_y cx cy n) (c2fd ax ay bx b_y cx cy n) (c2tn ax ay bx b_y cx cy n) (c2td ax ay bx b_y cx cy n) (c2fo ax ay bx b_y cx cy n) (c2to ax ay bx b_y cx cy n) else 0
def cufd (ax ay bx b_y cx cy n : Int) : Int := bif cuk ax ay bx b_y cx cy n then smfd (c2fn ax ay bx b_y cx cy n) (c2fd ax ay bx b_y cx cy n) (c2tn ax ay bx b_y cx cy n) (c2td ax ay bx b_y cx cy n) (c2fo ax ay bx b_y cx cy n) (c2to ax ay bx b_y cx cy n) else 0
def cutn (ax ay bx b_y cx cy n : Int) : Int := bif cuk ax ay bx b_y cx cy n then smtn (c2fn ax ay bx b_y cx cy n) (c2fd ax ay bx b_y cx cy n) (c2tn ax ay bx b_y cx cy n) (c2td ax ay bx b_y cx cy n) (c2fo ax ay bx b_y cx cy n) (c2to ax ay bx b_y cx cy n) else 0
def cutd (ax ay bx b_y cx cy n : Int) : Int := bif cuk ax ay bx b_y cx cy n then smtd (c2fn ax ay bx b_y cx cy n) (c2fd ax ay bx b_y cx cy n) (c2tn ax ay bx b_y cx cy n) (c2td ax ay bx b_y cx cy n) (c2fo ax ay bx b_y cx cy n) (c2to ax ay bx b_y cx cy n) else 0
def cufo (ax ay bx b_y cx cy n : Int) : Bool := bif cuk ax ay bx b_y cx cy n then smfo (c2fn ax ay bx b_y cx cy n) (c2fd ax ay bx b_y cx cy n) (c2tn ax ay bx b_y cx cy n) (c2td ax ay bx b_y cx cy n) (c2fo ax ay bx b_y cx cy n) (c2to ax ay bx b_y cx cy n) else false
def cuto (ax ay bx b_y cx cy n : Int) : Bool := bif cuk ax ay bx b_y cx cy n then smto (c2fn ax ay bx b_y cx cy n) (c2fd ax ay bx b_y cx cy n) (c2tn ax ay bx b_y cx cy n) (c2td ax ay bx b_y cx cy n) (c2fo ax ay bx b_y cx cy n) (c2to ax ay bx b_y cx cy n) else false
/-- the way is in the pixel at p / q -/
def inCC (ax ay bx b_y cx cy n p q : Int) : Prop := (0 ≤ p ∧ p ≤ q) ∧ inB ax (bx - ax) (2 * cx * n - n) (2 * cx * n + n) p q ∧ inB ay (b_y - ay) (2 * cy * n - n) (2 * cy * n + n) p q
theorem inC_iff (x : Int) : inC x = true ↔ -2199023255552 ≤ x ∧ x ≤ 2199023255552 := by unfold inC; simp
theorem rp_iff (x y : Int) : rp x y = true ↔ (-2199023255552 ≤ x ∧ x ≤ 2199023255552) ∧ (-2199023255552 ≤ y ∧ y ≤ 2199023255552) := by unfold rp; rw [Bool.and_eq_true, inC_iff, inC_iff]
theorem pxS_iff (n : Int) : pxS n = true ↔ 1 ≤ n ∧ n ≤ 1048576 := by
  unfold pxS
  cases h : decide (1 ≤ n) <;> simp at h ⊢ <;> omega
theorem sgR_iff (ax ay bx b_y : Int) : sgR ax ay bx b_y = true ↔ rp ax ay = true ∧ rp bx b_y = true := by
  unfold sgR
  cases rp ax ay <;> simp
theorem cuL_eq {c n : Int} (hc : -2199023255552 ≤ c ∧ c ≤ 2199023255552) (hn : 1 ≤ n ∧ n ≤ 1048576) :
    cuL c n = 2 * c * n - n ∧ cuH c n = 2 * c * n + n ∧ -4611686018427387904 ≤ 2 * c * n ∧ 2 * c * n ≤ 4611686018427387904 := by
  have e : wrap64 (2 * c) = 2 * c := w64_id (by omega) (by omega)
  have b := @mulb (2 * c) n 4398046511104 1048576 (by omega) (by omega) (by omega) (by omega) (by omega)
  have e2 : wrap64 (2 * c * n) = 2 * c * n := w64_id (by omega) (by omega)
  unfold cuL cuH
  rw [e, e2]
  exact ⟨w64_id (by omega) (by omega), w64_id (by omega) (by omega), by omega, by omega⟩
theorem InS_01 (p q : Int) : InS 0 1 1 1 false false p q ↔ 0 ≤ p ∧ p ≤ q := by unfold InS inF inT; simp
theorem cu_sp {ax ay bx b_y cx cy n : Int} (hn : pxS n = true) (hs : sgR ax ay bx b_y = true) (hc : rp cx cy = true) :
    (cuk ax ay bx b_y cx cy n = true → BS (cufn ax ay bx b_y cx cy n) (cufd ax ay bx b_y cx cy n) (cutn ax ay bx b_y cx cy n) (cutd ax ay bx b_y cx cy n) ∧ (∃ p q, 0 < q ∧ InS (cufn ax ay bx b_y cx cy n) (cufd ax ay bx b_y cx cy n) (cutn ax ay bx b_y cx cy n) (cutd ax ay bx b_y cx cy n) (cufo ax ay bx b_y cx cy n) (cuto ax ay bx b_y cx cy n) p q) ∧ ∀ p q, 0 < q → (InS (cufn ax ay bx b_y cx cy n) (cufd ax ay bx b_y cx cy n) (cutn ax ay bx b_y cx cy n) (cutd ax ay bx b_y cx cy n) (cufo ax ay bx b_y cx cy n) (cuto ax ay bx b_y cx cy n) p q ↔ inCC ax ay bx b_y cx cy n p q)) ∧
    (cuk ax ay bx b_y cx cy n = false → ∀ p q, 0 < q → ¬ inCC ax ay bx b_y cx cy n p q) := by
  have hn' := (pxS_iff n).1 hn
  have hs' := (sgR_iff _ _ _ _).1 hs
  have ha := (rp_iff _ _).1 hs'.1
  have hb := (rp_iff _ _).1 hs'.2
  have hc' := (rp_iff _ _).1 hc
  obtain ⟨x1, x2, x3, x4⟩ := cuL_eq hc'.1 hn'
  obtain ⟨y1, y2, y3, y4⟩ := cuL_eq hc'.2 hn'
  have wx : wrap64 (bx - ax) = bx - ax := w64_id (by omega) (by omega)
  have wy : wrap64 (b_y - ay) = b_y - ay := w64_id (by omega) (by omega)
  have B0 : BS 0 1 1 1 := ⟨⟨by omega, by omega, by omega, by omega⟩, by omega, by omega, by omega, by omega⟩
  have s1 := ba_sp false false B0 (a := ax) (b := bx - ax) (c := 2 * cx * n - n) (d := 2 * cx * n + n) ⟨by omega, by omega, by omega, by omega, by omega, by omega, by omega, by omega⟩
  rw [← wx, ← x1, ← x2] at s1
  have s1k : c1k ax bx cx n = true → _ := s1.1
  have s1n : c1k ax bx cx n = false → _ := s1.2
  have key : cuk ax ay bx b_y cx cy n = (bif c1k ax bx cx n then (bif c2k ax ay bx b_y cx cy n then smk_ (c2fn ax ay bx b_y cx cy n) (c2fd ax ay bx b_y cx cy n) (c2tn ax ay bx b_y cx cy n) (c2td ax ay bx b_y cx cy n) (c2fo ax ay bx b_y cx cy n) (c2to ax ay bx b_y cx cy n) else false) else false) := by
    unfold cuk; rw [hn, hs, hc]; rfl
  cases h1 : c1k ax bx cx n
  · rw [h1] at key
    refine ⟨fun h => by rw [h] at key; simp at key, fun _ p q hq k => s1n h1 p q hq ?_⟩
    have := k.2.1
    rw [← wx, ← x1, ← x2] at this
    exact this
  · obtain ⟨g1, g2⟩ := s1k h1
    have s2 := ba_sp (c1fo ax bx cx n) (c1to ax bx cx n) (show BS (c1fn ax bx cx n) (c1fd ax bx cx n) (c1tn ax bx cx n) (c1td ax bx cx n) from g1) (a := ay) (b := b_y - ay) (c := 2 * cy * n - n) (d := 2 * cy * n + n) ⟨by omega, by omega, by omega, by omega, by omega, by omega, by omega, by omega⟩
    rw [← wy, ← y1, ← y2] at s2
    have s2k : c2k ax ay bx b_y cx cy n = true → _ := s2.1
    have s2n : c2k ax ay bx b_y cx cy n = false → _ := s2.2
    rw [h1] at key
    cases h2 : c2k ax ay bx b_y cx cy n
    · rw [h2] at key
      refine ⟨fun h => by rw [h] at key; simp at key, fun _ p q hq k => s2n h2 p q hq ?_⟩
      have := k.2.2
      rw [← wy, ← y1, ← y2] at this
      exact this
    · obtain ⟨f1, f2⟩ := s2k h2
      rw [h2] at key
      have f1' : BS (c2fn ax ay bx b_y cx cy n) (c2fd ax ay bx b_y cx cy n) (c2tn ax ay bx b_y cx cy n) (c2td ax ay bx b_y cx cy n) := f1
      have eqv : ∀ p q, 0 < q → (InS (c2fn ax ay bx b_y cx cy n) (c2fd ax ay bx b_y cx cy n) (c2tn ax ay bx b_y cx cy n) (c2td ax ay bx b_y cx cy n) (c2fo ax ay bx b_y cx cy n) (c2to ax ay bx b_y cx cy n) p q ↔ inCC ax ay bx b_y cx cy n p q) := by
        intro p q hq
        have t2 : InS (c2fn ax ay bx b_y cx cy n) (c2fd ax ay bx b_y cx cy n) (c2tn ax ay bx b_y cx cy n) (c2td ax ay bx b_y cx cy n) (c2fo ax ay bx b_y cx cy n) (c2to ax ay bx b_y cx cy n) p q ↔ InS (c1fn ax bx cx n) (c1fd ax bx cx n) (c1tn ax bx cx n) (c1td ax bx cx n) (c1fo ax bx cx n) (c1to ax bx cx n) p q ∧ inB ay (wrap64 (b_y - ay)) (cuL cy n) (cuH cy n) p q := f2 p q hq
        have t1 : InS (c1fn ax bx cx n) (c1fd ax bx cx n) (c1tn ax bx cx n) (c1td ax bx cx n) (c1fo ax bx cx n) (c1to ax bx cx n) p q ↔ InS 0 1 1 1 false false p q ∧ inB ax (wrap64 (bx - ax)) (cuL cx n) (cuH cx n) p q := g2 p q hq
        rw [t2, t1, InS_01, wx, wy, x1, x2, y1, y2, and_assoc]
        exact Iff.rfl
      have s3 := sm_sp (c2fo ax ay bx b_y cx cy n) (c2to ax ay bx b_y cx cy n) f1'
      cases h3 : cuk ax ay bx b_y cx cy n
      · rw [h3] at key
        refine ⟨fun h => by simp at h, fun _ p q hq k => ?_⟩
        exact s3.2 key.symm p q hq ((eqv p q hq).2 k)
      · rw [h3] at key
        refine ⟨fun _ => ?_, fun h => by simp at h⟩
        unfold cufn cufd cutn cutd cufo cuto smfn smfd smtn smtd smto
        rw [h3, smfo_eq]
        exact ⟨f1', s3.1 key.symm, eqv⟩
theorem fin_bd {v B x : Int} (hv : 0 ≤ v) (h : v ≤ B) (hx : -(2199023255552 * v) ≤ x) (hx2 : x ≤ 2199023255552 * v) : -(2199023255552 * B) ≤ x ∧ x ≤ 2199023255552 * B := by omega
theorem mulv_ok {x y : Int} (h : InI (x * y)) : mulv x y = x * y := by unfold mulv okI; rw [decide_eq_true h]; rfl
theorem addv_ok {x y : Int} (h : InI (x + y)) : addv x y = x + y := by unfold addv okI; rw [decide_eq_true h]; rfl
/-- a coordinate x / v is in the row, or the column, of cell k -/
def inCell (n v k x : Int) : Prop := (2 * k * n - n) * v ≤ 2 * x ∧ 2 * x < (2 * k * n + n) * v
theorem pxc_sp {x v n : Int} (h0 : 0 < v) (h1 : v ≤ 1237940039285380274899124224) (hx : -(2199023255552 * v) ≤ x) (hx2 : x ≤ 2199023255552 * v) (hn : 1 ≤ n ∧ n ≤ 1048576) :
    inCell n v (pxc x v n) x ∧ -2199023255552 ≤ pxc x v n ∧ pxc x v n ≤ 2199023255552 := by
  have bx := fin_bd (Int.le_of_lt h0) h1 hx hx2
  have bm := @mulb v n 1237940039285380274899124224 1048576 (by omega) (by omega) (by omega) (by omega) (by omega)
  have e1 : mulv v n = v * n := mulv_ok (by unfold InI b255; omega)
  have e2 : addv x x = x + x := addv_ok (by unfold InI b255; omega)
  have e3 : addv (x + x) (v * n) = x + x + v * n := addv_ok (by unfold InI b255; omega)
  have e4 : addv (v * n) (v * n) = v * n + v * n := addv_ok (by unfold InI b255; omega)
  have hp : 0 < v * n := Int.mul_pos h0 (by omega)
  have hge : v ≤ v * n := by
    have := Int.mul_le_mul_of_nonneg_left hn.1 (Int.le_of_lt h0)
    omega
  have hd := Int.mul_ediv_add_emod (x + x + v * n) (v * n + v * n)
  have hr := Int.emod_nonneg (x + x + v * n) (show v * n + v * n ≠ 0 by omega)
  have hr2 := Int.emod_lt_of_pos (x + x + v * n) (show 0 < v * n + v * n by omega)
  generalize hk : (x + x + v * n) / (v * n + v * n) = k at hd
  generalize hm : (x + x + v * n) % (v * n + v * n) = m at hd hr hr2
  have g : (v * n + v * n) * k = 2 * k * n * v := by grind
  have g1 : (2 * k * n - n) * v = 2 * k * n * v - v * n := by grind
  have g2 : (2 * k * n + n) * v = 2 * k * n * v + v * n := by grind
  have hc : inCell n v k x := by
    unfold inCell
    omega
  have hk1 : k ≤ 2199023255552 := by
    have : k * (v * n + v * n) < (2199023255552 + 1) * (v * n + v * n) := by
      have e : k * (v * n + v * n) = (v * n + v * n) * k := Int.mul_comm _ _
      omega
    have := Int.lt_of_mul_lt_mul_right this (by omega)
    omega
  have hk2 : -2199023255552 ≤ k := by
    have : (-2199023255552 - 1) * (v * n + v * n) < k * (v * n + v * n) := by
      have e : k * (v * n + v * n) = (v * n + v * n) * k := Int.mul_comm _ _
      omega
    have := Int.lt_of_mul_lt_mul_right this (by omega)
    omega
  have e : pxc x v n = k := by
    unfold pxc
    rw [e1, e2, e3, e4]
    have f : fq (x + x + v * n) (v * n + v * n) = k := by unfold fq; rw [if_pos (by omega), hk]
    unfold dvq dvOk
    rw [f, decide_eq_true (show v * n + v * n ≠ 0 by omega), decide_eq_true (show k < b255 by unfold b255; omega)]
    show smk k = k
    unfold smk
    rw [decide_eq_true (show In64 k by unfold In64; omega)]
    rfl
  rw [e]
  exact ⟨hc, hk2, hk1⟩

theorem p_mul_le {w p q : Int} (hw : 0 ≤ w) (h : p ≤ q) : w * p ≤ w * q := Int.mul_le_mul_of_nonneg_left h hw
/-- one row of a box -/
theorem box1 {a b c A B n p q : Int} (h0 : 0 ≤ p) (h1 : p ≤ q) (hq : 0 < q) (hn : 0 < n) (h : inB a (b - a) (2 * c * n - n) (2 * c * n + n) p q)
    (hA : inCell n 1 A a) (hB : inCell n 1 B b) : min A B ≤ c ∧ c ≤ max A B := by
  obtain ⟨k1, k2⟩ := h
  unfold inCell at hA hB
  have key : ∀ X Y : Int, 2 * X * n - n < 2 * Y * n + n → X ≤ Y := by
    intro X Y h
    have h4 : n * (2 * X) < n * (2 * Y + 2) := by
      have e1 : n * (2 * X) = 2 * X * n := by grind
      have e2 : n * (2 * Y + 2) = 2 * Y * n + 2 * n := by grind
      omega
    have := Int.lt_of_mul_lt_mul_left h4 (Int.le_of_lt hn)
    omega
  have s0 : 2 * a * q = (2 * a) * q := rfl
  rcases Int.le_total a b with hab | hab
  · have w1 : 0 ≤ 2 * (b - a) * p := Int.mul_nonneg (by omega) h0
    have w2 : 2 * (b - a) * p ≤ 2 * (b - a) * q := p_mul_le (by omega) h1
    have w3 : 2 * a * q + 2 * (b - a) * q = 2 * b * q := by grind
    have c1 : 2 * c * n - n ≤ 2 * b := Int.le_of_mul_le_mul_right (a := q) (by omega) hq
    have c2 : 2 * a < 2 * c * n + n := Int.lt_of_mul_lt_mul_right (a := q) (by omega) (Int.le_of_lt hq)
    have d1 := key c B (by omega)
    have d2 := key A c (by omega)
    omega
  · have w1 : 0 ≤ 2 * (a - b) * p := Int.mul_nonneg (by omega) h0
    have w2 : 2 * (a - b) * p ≤ 2 * (a - b) * q := p_mul_le (by omega) h1
    have w3 : 2 * a * q - 2 * (a - b) * q = 2 * b * q := by grind
    have w4 : 2 * (b - a) * p = - (2 * (a - b) * p) := by grind
    have c1 : 2 * c * n - n ≤ 2 * a := Int.le_of_mul_le_mul_right (a := q) (by omega) hq
    have c2 : 2 * b < 2 * c * n + n := Int.lt_of_mul_lt_mul_right (a := q) (by omega) (Int.le_of_lt hq)
    have d1 := key c A (by omega)
    have d2 := key B c (by omega)
    omega

/-- fractions with one denominator -/
theorem sc_F {n d F p M : Int} {o : Bool} (hd : 0 < d) (e : n * M = F * d) : inF n d o p M ↔ (if o then F < p else F ≤ p) := by
  have h1 : n * M < p * d ↔ F < p := by rw [e]; exact ⟨fun h => Int.lt_of_mul_lt_mul_right h (Int.le_of_lt hd), fun h => Int.mul_lt_mul_of_pos_right h hd⟩
  have h2 : n * M ≤ p * d ↔ F ≤ p := by rw [e]; exact ⟨fun h => Int.le_of_mul_le_mul_right h hd, fun h => Int.mul_le_mul_of_nonneg_right h (Int.le_of_lt hd)⟩
  unfold inF
  cases o <;> simp [h1, h2]
theorem sc_T {n d F p M : Int} {o : Bool} (hd : 0 < d) (e : n * M = F * d) : inT n d o p M ↔ (if o then p < F else p ≤ F) := by
  have h1 : p * d < n * M ↔ p < F := by rw [e]; exact ⟨fun h => Int.lt_of_mul_lt_mul_right h (Int.le_of_lt hd), fun h => Int.mul_lt_mul_of_pos_right h hd⟩
  have h2 : p * d ≤ n * M ↔ p ≤ F := by rw [e]; exact ⟨fun h => Int.le_of_mul_le_mul_right h hd, fun h => Int.mul_le_mul_of_nonneg_right h (Int.le_of_lt hd)⟩
  unfold inT
  cases o <;> simp [h1, h2]
theorem sc_lt {n d F x y X M : Int} (hM : 0 < M) (hd : 0 < d) (hy : 0 < y) (e : n * M = F * d) (k : x * M = X * y) (h : F < X) : n * y < x * d := by
  have h1 := Int.mul_lt_mul_of_pos_right h (Int.mul_pos hd hy)
  have e1 : F * (d * y) = n * y * M := by
    have : F * (d * y) = F * d * y := by grind
    rw [this, ← e]; grind
  have e2 : X * (d * y) = x * d * M := by
    have : X * (d * y) = X * y * d := by grind
    rw [this, ← k]; grind
  rw [e1, e2] at h1
  exact Int.lt_of_mul_lt_mul_right h1 (Int.le_of_lt hM)
theorem sc_eq {n d F x y X M : Int} (hM : 0 < M) (e : n * M = F * d) (k : x * M = X * y) (h : F = X) : n * y = x * d := by
  have e1 : F * (d * y) = n * y * M := by
    have : F * (d * y) = F * d * y := by grind
    rw [this, ← e]; grind
  have e2 : X * (d * y) = x * d * M := by
    have : X * (d * y) = X * y * d := by grind
    rw [this, ← k]; grind
  rw [h, e2] at e1
  exact (Int.eq_of_mul_eq_mul_right (Int.ne_of_gt hM) e1).symm
theorem sc_cmp {n d F x y X M : Int} (hM : 0 < M) (hd : 0 < d) (hy : 0 < y) (e : n * M = F * d) (k : x * M = X * y) : cmpI (n * y) (x * d) = cmpI F X := by
  rcases Int.lt_trichotomy F X with h | h | h
  · rw [cmpI_lt h, cmpI_lt (sc_lt hM hd hy e k h)]
  · rw [sc_eq hM e k h, h, cmpI_eq, cmpI_eq]
  · rw [cmpI_gt h, cmpI_gt (sc_lt hM hy hd k e h)]
/-- a stretch that has a point, in whole numbers -/
theorem sc_some {fn fd tn td F T M : Int} {fo to : Bool} (hM : 0 < M) (h1 : 0 < fd) (h2 : 0 < td) (e : fn * M = F * fd) (k : tn * M = T * td) (h : ∃ p q, 0 < q ∧ InS fn fd tn td fo to p q) :
    F < T ∨ (F = T ∧ fo = false ∧ to = false) := by
  obtain ⟨p, q, hq, hp⟩ := h
  rcases Int.lt_trichotomy F T with g | g | g
  · exact .inl g
  · refine .inr ⟨g, ?_⟩
    have := sc_eq hM e k g
    cases fo <;> cases to <;> first | exact ⟨rfl, rfl⟩ | exact absurd hp (none_in h1 h2 hq (.inr ⟨this.symm, by simp⟩))
  · exact absurd hp (none_in h1 h2 hq (.inl (sc_lt hM h2 h1 k e g)))
/-- two stretches that have no point in common -/
theorem apart {a b c d a2 b2 c2 d2 : Int} {o u o2 u2 : Bool} (hS : BS a b c d) (hS2 : BS a2 b2 c2 d2)
    (h1 : ∃ p q, 0 < q ∧ InS a b c d o u p q) (h2 : ∃ p q, 0 < q ∧ InS a2 b2 c2 d2 o2 u2 p q) (hd : ∀ p q, 0 < q → InS a b c d o u p q → InS a2 b2 c2 d2 o2 u2 p q → False) :
    (cmpI (a * b2) (a2 * b) = 0 → o ≠ o2) ∧
    (cmpI (a * b2) (a2 * b) = -1 ∨ (cmpI (a * b2) (a2 * b) = 0 ∧ o = false ∧ o2 = true) → cmpI (c * b2) (a2 * d) = -1 ∨ (cmpI (c * b2) (a2 * d) = 0 ∧ (u = true ∨ o2 = true))) := by
  have q1 := hS.1.2.2.1
  have q2 := hS.2.2.2.1
  have q3 := hS2.1.2.2.1
  have q4 := hS2.2.2.2.1
  have hM : 0 < 2 * (b * d * b2 * d2) := by
    have := Int.mul_pos (Int.mul_pos (Int.mul_pos q1 q2) q3) q4
    omega
  have e1 : a * (2 * (b * d * b2 * d2)) = 2 * (a * d * b2 * d2) * b := by grind
  have e2 : c * (2 * (b * d * b2 * d2)) = 2 * (c * b * b2 * d2) * d := by grind
  have e3 : a2 * (2 * (b * d * b2 * d2)) = 2 * (a2 * b * d * d2) * b2 := by grind
  have e4 : c2 * (2 * (b * d * b2 * d2)) = 2 * (c2 * b * d * b2) * d2 := by grind
  generalize 2 * (b * d * b2 * d2) = M at hM e1 e2 e3 e4
  generalize a * d * b2 * d2 = A at e1
  generalize c * b * b2 * d2 = C at e2
  generalize a2 * b * d * d2 = A2 at e3
  generalize c2 * b * d * b2 = C2 at e4
  have n1 := sc_some hM q1 q2 e1 e2 h1
  have n2 := sc_some hM q3 q4 e3 e4 h2
  rw [sc_cmp hM q1 q3 e1 e3, sc_cmp hM q2 q3 e2 e3]
  have D : ∀ p, (if o then 2 * A < p else 2 * A ≤ p) → (if u then p < 2 * C else p ≤ 2 * C) → (if o2 then 2 * A2 < p else 2 * A2 ≤ p) → (if u2 then p < 2 * C2 else p ≤ 2 * C2) → False := fun p k1 k2 k3 k4 =>
    hd p M hM ⟨(sc_F q1 e1).2 k1, (sc_T q2 e2).2 k2⟩ ⟨(sc_F q3 e3).2 k3, (sc_T q4 e4).2 k4⟩
  have D1 := D (2 * A)
  have D2 := D (2 * A + 1)
  have D3 := D (2 * A2)
  have D4 := D (2 * A2 + 1)
  clear D hd h1 h2 e1 e2 e3 e4
  have z1 := cmpI_cases (2 * A) (2 * A2)
  have z2 := cmpI_cases (2 * C) (2 * A2)
  generalize cmpI (2 * A) (2 * A2) = s at z1 ⊢
  generalize cmpI (2 * C) (2 * A2) = r at z2 ⊢
  cases o <;> cases u <;> cases o2 <;> cases u2 <;> simp at D1 D2 D3 D4 n1 n2 ⊢ <;> omega
end Go.Proofs.Ytlcbomjdbdgbmaa

namespace Go.Proofs.Ytlcbomjdbdgbmaa
open Go.RowKit

theorem blk_row {w : World} {b : Nat} {q : Array Value} {t : TypeId} (h : Blk w b q t) (cs : Array Value) : Blk (w.setRow b cs) b cs t := setRow_heap _ _ _ _ _ _ h
theorem blw_row {B g : Nat} {w0 w : World} (hb : Below B w0 w) (hBg : B ≤ g) (cs : Array Value) : Below B w0 (w.setRow g cs) :=
  hb.trans ⟨rfl, rfl, rfl, by simp, fun k hk => setRow_other _ _ _ _ (by omega)⟩
@[go_sem] theorem cell_rowo (w : World) (g : Nat) (cs : Array Value) (b o : Nat) (h : b ≠ g) : (w.setRow g cs).cell? ⟨b, o, none⟩ = w.cell? ⟨b, o, none⟩ := cell_setRow_other w g cs ⟨b, o, none⟩ h
theorem stRow {P : Program} {ops : Array Oper} {rest : List Oper} {dst : Option Tmp} {ty tp : TypeId} {x y : Operand} {ps : String} {af} {a : Act} {w : World} {Q : Exit → Act → World → Prop}
    (g : Nat) (cells : Array Value) (t : TypeId) (old : Array Value) (hg : Blk w g old t) (hx : a.eval x = .pointer (some ⟨g, 0, none⟩)) (hy : a.eval y = .agg cells) (hi : (P.info? ty).map (·.size) = some cells.size)
    (hold : old.size = cells.size) (h1 : cells.all (·.oneCell') = true) (h : wpList P ops Q rest (a.put dst undef) (w.setRow g cells)) : wpList P ops Q ({ dst := dst, op := .store ty x y, type := tp, pos := ps, after := af, guard := none } :: rest) a w :=
  wpList_store_row rfl ty x y rfl g cells hx hy t old hg hi hold h1 h
theorem ldRow {P : Program} {ops : Array Oper} {rest : List Oper} {dst : Option Tmp} {ty tp : TypeId} {x : Operand} {ps : String} {af} {a : Act} {w : World} {Q : Exit → Act → World → Prop}
    (g : Nat) (cs : Array Value) (t : TypeId) (hg : Blk w g cs t) (hx : a.eval x = .pointer (some ⟨g, 0, none⟩)) (hu : ∃ d, P.underlying ty = some d ∧ (match d with | .struct _ | .array _ _ => true | _ => false) = true) (hi : (P.info? ty).map (·.size) = some cs.size)
    (h : wpList P ops Q rest (a.put dst (.agg cs)) w) : wpList P ops Q ({ dst := dst, op := .load ty x, type := tp, pos := ps, after := af, guard := none } :: rest) a w :=
  by
  obtain ⟨d, h1, h2⟩ := hu
  exact wpList_load_row rfl ty x rfl g hx t cs (0, 0) d hg h1 (by cases d <;> first | rfl | (simp at h2)) hi h
theorem results_row_tmp {P : Program} {fn : Func} {p u : Tmp} {ty : TypeId} (h : fn.results = #[.cell p ty, .tmp u]) (tmps : Array Value) (w : World) (g : Nat) (t : TypeId) (cs : Array Value) (fr : Nat × Nat) (d : TypeDesc)
    (hp : tmps.getD p undef = .pointer (some ⟨g, 0, none⟩)) (hg : w.heap[g]? = some (.cells cs t fr))
    (hu : P.underlying ty = some d) (hd : (match d with | .struct _ | .array _ _ => true | _ => false) = true) (hi : (P.info? ty).map (·.size) = some cs.size) :
    (results fn tmps).run P w = .ok (.tuple #[.agg cs, tmps.getD u undef]) w := by
  have hp' : tmps[p]?.getD undef = .pointer (some ⟨g, 0, none⟩) := by simpa using hp
  simp [results, h, hp', asAddr, run_loadVar_row w g t ty cs fr d hg hu hd hi]
end Go.Proofs.Ytlcbomjdbdgbmaa

namespace Go.Proofs.Ytlcbomjdbdgbmaa
open Go.RowKit

set_option maxRecDepth 100000 in
set_option maxHeartbeats 4000000 in

theorem pxCut_0 (ax : Int) (ay : Int) (bx : Int) (b_y : Int) (cx : Int) (cy : Int) (n : Int)  (R0 : Int) (R1 : Int) (R2 : Int) (R3 : Int) (R4 : Bool) (R5 : Bool) (R6 : Bool) (hR0 : (fun (_ : Int) (_ : Int) (_ : Int) (_ : Int) (_ : Int) (_ : Int) (_ : Int) => 0) ax ay bx b_y cx cy n = R0) (hR1 : (fun (_ : Int) (_ : Int) (_ : Int) (_ : Int) (_ : Int) (_ : Int) (_ : Int) => 0) ax ay bx b_y cx cy n = R1) (hR2 : (fun (_ : Int) (_ : Int) (_ : Int) (_ : Int) (_ : Int) (_ : Int) (_ : Int) => 0) ax ay bx b_y cx cy n = R2) (hR3 : (fun (_ : Int) (_ : Int) (_ : Int) (_ : Int) (_ : Int) (_ : Int) (_ : Int) => 0) ax ay bx b_y cx cy n = R3) (hR4 : (fun (_ : Int) (_ : Int) (_ : Int) (_ : Int) (_ : Int) (_ : Int) (_ : Int) => false) ax ay bx b_y cx cy n = R4) (hR5 : (fun (_ : Int) (_ : Int) (_ : Int) (_ : Int) (_ : Int) (_ : Int) (_ : Int) => false) ax ay bx b_y cx cy n = R5) (hR6 : (fun (_ : Int) (_ : Int) (_ : Int) (_ : Int) (_ : Int) (_ : Int) (_ : Int) => false) ax ay bx b_y cx cy n = R6) (hP0 : pxS n = false) (_iax : In64 ax) (_iay : In64 ay) (_ibx : In64 bx) (_ib_y : In64 b_y) (_icx : In64 cx) (_icy : In64 cy) (_in : In64 n)  (w : World)  :
    Calls Try.prog 30 #[.agg #[.int .i64 ax, .int .i64 ay, .int .i64 bx, .int .i64 b_y], .agg #[.int .i64 cx, .int .i64 cy], .int .i64 n] w fun e w' => e = .returned (.tuple #[.agg #[.int .u64 (wd0 R0), .int .u64 (wd1 R0), .int .u64 (wd2 R0), .int .u64 (wd3 R0), .int .u64 (wd0 R1), .int .u64 (wd1 R1), .int .u64 (wd2 R1), .int .u64 (wd3 R1), .int .u64 (wd0 R2), .int .u64 (wd1 R2), .int .u64 (wd2 R2), .int .u64 (wd3 R2), .int .u64 (wd0 R3), .int .u64 (wd1 R3), .int .u64 (wd2 R3), .int .u64 (wd3 R3), .bool R4, .bool R5], .bool R6]) ∧ Below w.heap.size w w' := by

  have HP0 := Lib.hid hP0
  clear hP0
  have HR0 := Lib.hid hR0
  clear hR0
  have HR1 := Lib.hid hR1
  clear hR1
  have HR2 := Lib.hid hR2
  clear hR2
  have HR3 := Lib.hid hR3
  clear hR3
  have HR4 := Lib.hid hR4
  clear hR4
  have HR5 := Lib.hid hR5
  clear hR5
  have HR6 := Lib.hid hR6
  clear hR6
  go_enter Try.func30, Try.ntmps30
  go_wp2_with fail
  first | refine calls_w ?_ | refine name_world ?_ | refine list_world ?_ | refine post_world ?_
  intro V1 hV1
  have hn : Below w.heap.size w V1 := by rw [hV1]; exact below_a3 _ _ _ _
  have nhb0 := hn
  have k1 : Blk V1 w.heap.size #[.int .i64 ax, .int .i64 ay, .int .i64 bx, .int .i64 b_y] 50 := by rw [hV1]; exact (((Blk.new _ _ _).alloc _).alloc _)
  have k2 : Blk V1 (w.heap.size + 1) #[.int .i64 cx, .int .i64 cy] 24 := by rw [hV1]; exact ((Blk.new1 _ _ _ _).alloc _)
  have k3 : Blk V1 (w.heap.size + 1 + 1) #[.int .u64 0, .int .u64 0, .int .u64 0, .int .u64 0, .int .u64 0, .int .u64 0, .int .u64 0, .int .u64 0, .int .u64 0, .int .u64 0, .int .u64 0, .int .u64 0, .int .u64 0, .int .u64 0, .int .u64 0, .int .u64 0, .bool false, .bool false] 54 := by rw [hV1]; exact (Blk.new2 _ _ _ _ _)
  clear hV1
  have hb0 := nhb0
  clear nhb0
  refine (pxSize_is n false HP0.out _in  _).mono ?_
  rintro e U2 ⟨rfl, hn⟩
  replace k1 := k1.of hn
  replace k2 := k2.of hn
  replace k3 := k3.of hn
  replace hb0 := hb0.trans (hn.mono hb0.size)
  clear hn
  have e0 : 0 = R0 := by rw [← HR0.out]; (try rw [HP0.out]); all_goals first | rfl | simp
  have e1 : 0 = R1 := by rw [← HR1.out]; (try rw [HP0.out]); all_goals first | rfl | simp
  have e2 : 0 = R2 := by rw [← HR2.out]; (try rw [HP0.out]); all_goals first | rfl | simp
  have e3 : 0 = R3 := by rw [← HR3.out]; (try rw [HP0.out]); all_goals first | rfl | simp
  have e4 : false = R4 := by rw [← HR4.out]; (try rw [HP0.out]); all_goals first | rfl | simp
  have e5 : false = R5 := by rw [← HR5.out]; (try rw [HP0.out]); all_goals first | rfl | simp
  have e6 : false = R6 := by rw [← HR6.out]; (try rw [HP0.out]); all_goals first | rfl | simp
  subst e0
  subst e1
  subst e2
  subst e3
  subst e4
  subst e5
  subst e6
  go_wp2_with (first | ((with_reducible refine stRow (w.heap.size + 1 + 1) #[.int .u64 0, .int .u64 0, .int .u64 0, .int .u64 0, .int .u64 0, .int .u64 0, .int .u64 0, .int .u64 0, .int .u64 0, .int .u64 0, .int .u64 0, .int .u64 0, .int .u64 0, .int .u64 0, .int .u64 0, .int .u64 0, .bool false, .bool false] _ _ k3 ?_ ?_ ?_ ?_ ?_ ?_); rfl; rfl; (as_aux_lemma => kernel_rfl); rfl; (as_aux_lemma => kernel_rfl); simp only [Act.put]))
  first | refine post_world ?_
  intro V3 hV3
  have D1 := Lib.hid k1.lt
  have D2 := Lib.hid k2.lt
  have D3 := Lib.hid k3.lt
  have D4 := Lib.hid hb0.size
  clear k1 k2
  have nk3 : Blk V3 (w.heap.size + 1 + 1) #[.int .u64 0, .int .u64 0, .int .u64 0, .int .u64 0, .int .u64 0, .int .u64 0, .int .u64 0, .int .u64 0, .int .u64 0, .int .u64 0, .int .u64 0, .int .u64 0, .int .u64 0, .int .u64 0, .int .u64 0, .int .u64 0, .bool false, .bool false] 54 := by rw [hV3]; exact blk_row k3 _
  have nhb0 : Below w.heap.size w V3 := by rw [hV3]; exact blw_row hb0 (by omega) _
  clear k3
  clear hb0
  clear hV3
  have k3 := nk3
  clear nk3
  have hb0 := nhb0
  clear nhb0
  refine ⟨rfl, _, results_row_tmp rfl _ _ _ _ _ _ _ rfl k3 rfl rfl (by as_aux_lemma => kernel_rfl), ?_, hb0⟩
  first | rfl | kernel_rfl

set_option maxRecDepth 100000 in
set_option maxHeartbeats 4000000 in

theorem pxCut_1 (ax : Int) (ay : Int) (bx : Int) (b_y : Int) (cx : Int) (cy : Int) (n : Int)  (R0 : Int) (R1 : Int) (R2 : Int) (R3 : Int) (R4 : Bool) (R5 : Bool) (R6 : Bool) (hR0 : (fun (_ : Int) (_ : Int) (_ : Int) (_ : Int) (_ : Int) (_ : Int) (_ : Int) => 0) ax ay bx b_y cx cy n = R0) (hR1 : (fun (_ : Int) (_ : Int) (_ : Int) (_ : Int) (_ : Int) (_ : Int) (_ : Int) => 0) ax ay bx b_y cx cy n = R1) (hR2 : (fun (_ : Int) (_ : Int) (_ : Int) (_ : Int) (_ : Int) (_ : Int) (_ : Int) => 0) ax ay bx b_y cx cy n = R2) (hR3 : (fun (_ : Int) (_ : Int) (_ : Int) (_ : Int) (_ : Int) (_ : Int) (_ : Int) => 0) ax ay bx b_y cx cy n = R3) (hR4 : (fun (_ : Int) (_ : Int) (_ : Int) (_ : Int) (_ : Int) (_ : Int) (_ : Int) => false) ax ay bx b_y cx cy n = R4) (hR5 : (fun (_ : Int) (_ : Int) (_ : Int) (_ : Int) (_ : Int) (_ : Int) (_ : Int) => false) ax ay bx b_y cx cy n = R5) (hR6 : (fun (_ : Int) (_ : Int) (_ : Int) (_ : Int) (_ : Int) (_ : Int) (_ : Int) => false) ax ay bx b_y cx cy n = R6) (hP0 : pxS n = true) (hP1 : sgR ax ay bx b_y = false) (_iax : In64 ax) (_iay : In64 ay) (_ibx : In64 bx) (_ib_y : In64 b_y) (_icx : In64 cx) (_icy : In64 cy) (_in : In64 n)  (w : World)  :
    Calls Try.prog 30 #[.agg #[.int .i64 ax, .int .i64 ay, .int .i64 bx, .int .i64 b_y], .agg #[.int .i64 cx, .int .i64 cy], .int .i64 n] w fun e w' => e = .returned (.tuple #[.agg #[.int .u64 (wd0 R0), .int .u64 (wd1 R0), .int .u64 (wd2 R0), .int .u64 (wd3 R0), .int .u64 (wd0 R1), .int .u64 (wd1 R1), .int .u64 (wd2 R1), .int .u64 (wd3 R1), .int .u64 (wd0 R2), .int .u64 (wd1 R2), .int .u64 (wd2 R2), .int .u64 (wd3 R2), .int .u64 (wd0 R3), .int .u64 (wd1 R3), .int .u64 (wd2 R3), .int .u64 (wd3 R3), .bool R4, .bool R5], .bool R6]) ∧ Below w.heap.size w w' := by

  have HP0 := Lib.hid hP0
  clear hP0
  have HP1 := Lib.hid hP1
  clear hP1
  have HR0 := Lib.hid hR0
  clear hR0
  have HR1 := Lib.hid hR1
  clear hR1
  have HR2 := Lib.hid hR2
  clear hR2
  have HR3 := Lib.hid hR3
  clear hR3
  have HR4 := Lib.hid hR4
  clear hR4
  have HR5 := Lib.hid hR5
  clear hR5
  have HR6 := Lib.hid hR6
  clear hR6
  go_enter Try.func30, Try.ntmps30
  go_wp2_with fail
  first | refine calls_w ?_ | refine name_world ?_ | refine list_world ?_ | refine post_world ?_
  intro V1 hV1
  have hn : Below w.heap.size w V1 := by rw [hV1]; exact below_a3 _ _ _ _
  have nhb0 := hn
  have k1 : Blk V1 w.heap.size #[.int .i64 ax, .int .i64 ay, .int .i64 bx, .int .i64 b_y] 50 := by rw [hV1]; exact (((Blk.new _ _ _).alloc _).alloc _)
  have k2 : Blk V1 (w.heap.size + 1) #[.int .i64 cx, .int .i64 cy] 24 := by rw [hV1]; exact ((Blk.new1 _ _ _ _).alloc _)
  have k3 : Blk V1 (w.heap.size + 1 + 1) #[.int .u64 0, .int .u64 0, .int .u64 0, .int .u64 0, .int .u64 0, .int .u64 0, .int .u64 0, .int .u64 0, .int .u64 0, .int .u64 0, .int .u64 0, .int .u64 0, .int .u64 0, .int .u64 0, .int .u64 0, .int .u64 0, .bool false, .bool false] 54 := by rw [hV1]; exact (Blk.new2 _ _ _ _ _)
  clear hV1
  have hb0 := nhb0
  clear nhb0
  refine (pxSize_is n true HP0.out _in  _).mono ?_
  rintro e U2 ⟨rfl, hn⟩
  replace k1 := k1.of hn
  replace k2 := k2.of hn
  replace k3 := k3.of hn
  replace hb0 := hb0.trans (hn.mono hb0.size)
  clear hn
  have c1_0 : U2.cell? ⟨w.heap.size, 0, none⟩ = some (.int .i64 ax) := k1.cell 0
  have c1_1 : U2.cell? ⟨w.heap.size, 1, none⟩ = some (.int .i64 ay) := k1.cell 1
  have c1_2 : U2.cell? ⟨w.heap.size, 2, none⟩ = some (.int .i64 bx) := k1.cell 2
  have c1_3 : U2.cell? ⟨w.heap.size, 3, none⟩ = some (.int .i64 b_y) := k1.cell 3
  have l1 := k1.lt
  go_wp2_with fail
  clear c1_0 c1_1 c1_2 c1_3 l1
  refine (SegRight_is ax ay bx b_y false HP1.out _iax _iay _ibx _ib_y  _).mono ?_
  rintro e U3 ⟨rfl, hn⟩
  replace k1 := k1.of hn
  replace k2 := k2.of hn
  replace k3 := k3.of hn
  replace hb0 := hb0.trans (hn.mono hb0.size)
  clear hn
  have e0 : 0 = R0 := by rw [← HR0.out]; (try rw [HP0.out]); (try rw [HP1.out]); all_goals first | rfl | simp
  have e1 : 0 = R1 := by rw [← HR1.out]; (try rw [HP0.out]); (try rw [HP1.out]); all_goals first | rfl | simp
  have e2 : 0 = R2 := by rw [← HR2.out]; (try rw [HP0.out]); (try rw [HP1.out]); all_goals first | rfl | simp
  have e3 : 0 = R3 := by rw [← HR3.out]; (try rw [HP0.out]); (try rw [HP1.out]); all_goals first | rfl | simp
  have e4 : false = R4 := by rw [← HR4.out]; (try rw [HP0.out]); (try rw [HP1.out]); all_goals first | rfl | simp
  have e5 : false = R5 := by rw [← HR5.out]; (try rw [HP0.out]); (try rw [HP1.out]); all_goals first | rfl | simp
  have e6 : false = R6 := by rw [← HR6.out]; (try rw [HP0.out]); (try rw [HP1.out]); all_goals first | rfl | simp
  subst e0
  subst e1
  subst e2
  subst e3
  subst e4
  subst e5
  subst e6
  go_wp2_with (first | ((with_reducible refine stRow (w.heap.size + 1 + 1) #[.int .u64 0, .int .u64 0, .int .u64 0, .int .u64 0, .int .u64 0, .int .u64 0, .int .u64 0, .int .u64 0, .int .u64 0, .int .u64 0, .int .u64 0, .int .u64 0, .int .u64 0, .int .u64 0, .int .u64 0, .int .u64 0, .bool false, .bool false] _ _ k3 ?_ ?_ ?_ ?_ ?_ ?_); rfl; rfl; (as_aux_lemma => kernel_rfl); rfl; (as_aux_lemma => kernel_rfl); simp only [Act.put]))
  first | refine post_world ?_
  intro V4 hV4
  have D1 := Lib.hid k1.lt
  have D2 := Lib.hid k2.lt
  have D3 := Lib.hid k3.lt
  have D4 := Lib.hid hb0.size
  clear k1 k2
  have nk3 : Blk V4 (w.heap.size + 1 + 1) #[.int .u64 0, .int .u64 0, .int .u64 0, .int .u64 0, .int .u64 0, .int .u64 0, .int .u64 0, .int .u64 0, .int .u64 0, .int .u64 0, .int .u64 0, .int .u64 0, .int .u64 0, .int .u64 0, .int .u64 0, .int .u64 0, .bool false, .bool false] 54 := by rw [hV4]; exact blk_row k3 _
  have nhb0 : Below w.heap.size w V4 := by rw [hV4]; exact blw_row hb0 (by omega) _
  clear k3
  clear hb0
  clear hV4
  have k3 := nk3
  clear nk3
  have hb0 := nhb0
  clear nhb0
  refine ⟨rfl, _, results_row_tmp rfl _ _ _ _ _ _ _ rfl k3 rfl rfl (by as_aux_lemma => kernel_rfl), ?_, hb0⟩
  first | rfl | kernel_rfl

set_option maxRecDepth 100000 in
set_option maxHeartbeats 4000000 in

theorem pxCut_2 (ax : Int) (ay : Int) (bx : Int) (b_y : Int) (cx : Int) (cy : Int) (n : Int)  (R0 : Int) (R1 : Int) (R2 : Int) (R3 : Int) (R4 : Bool) (R5 : Bool) (R6 : Bool) (hR0 : (fun (_ : Int) (_ : Int) (_ : Int) (_ : Int) (_ : Int) (_ : Int) (_ : Int) => 0) ax ay bx b_y cx cy n = R0) (hR1 : (fun (_ : Int) (_ : Int) (_ : Int) (_ : Int) (_ : Int) (_ : Int) (_ : Int) => 0) ax ay bx b_y cx cy n = R1) (hR2 : (fun (_ : Int) (_ : Int) (_ : Int) (_ : Int) (_ : Int) (_ : Int) (_ : Int) => 0) ax ay bx b_y cx cy n = R2) (hR3 : (fun (_ : Int) (_ : Int) (_ : Int) (_ : Int) (_ : Int) (_ : Int) (_ : Int) => 0) ax ay bx b_y cx cy n = R3) (hR4 : (fun (_ : Int) (_ : Int) (_ : Int) (_ : Int) (_ : Int) (_ : Int) (_ : Int) => false) ax ay bx b_y cx cy n = R4) (hR5 : (fun (_ : Int) (_ : Int) (_ : Int) (_ : Int) (_ : Int) (_ : Int) (_ : Int) => false) ax ay bx b_y cx cy n = R5) (hR6 : (fun (_ : Int) (_ : Int) (_ : Int) (_ : Int) (_ : Int) (_ : Int) (_ : Int) => false) ax ay bx b_y cx cy n = R6) (hP0 : pxS n = true) (hP1 : sgR ax ay bx b_y = true) (hP2 : rp cx cy = false) (_iax : In64 ax) (_iay : In64 ay) (_ibx : In64 bx) (_ib_y : In64 b_y) (_icx : In64 cx) (_icy : In64 cy) (_in : In64 n)  (w : World)  :
    Calls Try.prog 30 #[.agg #[.int .i64 ax, .int .i64 ay, .int .i64 bx, .int .i64 b_y], .agg #[.int .i64 cx, .int .i64 cy], .int .i64 n] w fun e w' => e = .returned (.tuple #[.agg #[.int .u64 (wd0 R0), .int .u64 (wd1 R0), .int .u64 (wd2 R0), .int .u64 (wd3 R0), .int .u64 (wd0 R1), .int .u64 (wd1 R1), .int .u64 (wd2 R1), .int .u64 (wd3 R1), .int .u64 (wd0 R2), .int .u64 (wd1 R2), .int .u64 (wd2 R2), .int .u64 (wd3 R2), .int .u64 (wd0 R3), .int .u64 (wd1 R3), .int .u64 (wd2 R3), .int .u64 (wd3 R3), .bool R4, .bool R5], .bool R6]) ∧ Below w.heap.size w w' := by

  have HP0 := Lib.hid hP0
  clear hP0
  have HP1 := Lib.hid hP1
  clear hP1
  have HP2 := Lib.hid hP2
  clear hP2
  have HR0 := Lib.hid hR0
  clear hR0
  have HR1 := Lib.hid hR1
  clear hR1
  have HR2 := Lib.hid hR2
  clear hR2
  have HR3 := Lib.hid hR3
  clear hR3
  have HR4 := Lib.hid hR4
  clear hR4
  have HR5 := Lib.hid hR5
  clear hR5
  have HR6 := Lib.hid hR6
  clear hR6
  go_enter Try.func30, Try.ntmps30
  go_wp2_with fail
  first | refine calls_w ?_ | refine name_world ?_ | refine list_world ?_ | refine post_world ?_
  intro V1 hV1
  have hn : Below w.heap.size w V1 := by rw [hV1]; exact below_a3 _ _ _ _
  have nhb0 := hn
  have k1 : Blk V1 w.heap.size #[.int .i64 ax, .int .i64 ay, .int .i64 bx, .int .i64 b_y] 50 := by rw [hV1]; exact (((Blk.new _ _ _).alloc _).alloc _)
  have k2 : Blk V1 (w.heap.size + 1) #[.int .i64 cx, .int .i64 cy] 24 := by rw [hV1]; exact ((Blk.new1 _ _ _ _).alloc _)
  have k3 : Blk V1 (w.heap.size + 1 + 1) #[.int .u64 0, .int .u64 0, .int .u64 0, .int .u64 0, .int .u64 0, .int .u64 0, .int .u64 0, .int .u64 0, .int .u64 0, .int .u64 0, .int .u64 0, .int .u64 0, .int .u64 0, .int .u64 0, .int .u64 0, .int .u64 0, .bool false, .bool false] 54 := by rw [hV1]; exact (Blk.new2 _ _ _ _ _)
  clear hV1
  have hb0 := nhb0
  clear nhb0
  refine (pxSize_is n true HP0.out _in  _).mono ?_
  rintro e U2 ⟨rfl, hn⟩
  replace k1 := k1.of hn
  replace k2 := k2.of hn
  replace k3 := k3.of hn
  replace hb0 := hb0.trans (hn.mono hb0.size)
  clear hn
  have c1_0 : U2.cell? ⟨w.heap.size, 0, none⟩ = some (.int .i64 ax) := k1.cell 0
  have c1_1 : U2.cell? ⟨w.heap.size, 1, none⟩ = some (.int .i64 ay) := k1.cell 1
  have c1_2 : U2.cell? ⟨w.heap.size, 2, none⟩ = some (.int .i64 bx) := k1.cell 2
  have c1_3 : U2.cell? ⟨w.heap.size, 3, none⟩ = some (.int .i64 b_y) := k1.cell 3
  have l1 := k1.lt
  go_wp2_with fail
  clear c1_0 c1_1 c1_2 c1_3 l1
  refine (SegRight_is ax ay bx b_y true HP1.out _iax _iay _ibx _ib_y  _).mono ?_
  rintro e U3 ⟨rfl, hn⟩
  replace k1 := k1.of hn
  replace k2 := k2.of hn
  replace k3 := k3.of hn
  replace hb0 := hb0.trans (hn.mono hb0.size)
  clear hn
  have c2_0 : U3.cell? ⟨(w.heap.size + 1), 0, none⟩ = some (.int .i64 cx) := k2.cell 0
  have c2_1 : U3.cell? ⟨(w.heap.size + 1), 1, none⟩ = some (.int .i64 cy) := k2.cell 1
  have l2 := k2.lt
  go_wp2_with fail
  clear c2_0 c2_1 l2
  refine (PtRight_v cx cy false HP2.out _).mono ?_
  rintro e U4 ⟨rfl, hn⟩
  replace k1 := k1.of hn
  replace k2 := k2.of hn
  replace k3 := k3.of hn
  replace hb0 := hb0.trans (hn.mono hb0.size)
  clear hn
  have e0 : 0 = R0 := by rw [← HR0.out]; (try rw [HP0.out]); (try rw [HP1.out]); (try rw [HP2.out]); all_goals first | rfl | simp
  have e1 : 0 = R1 := by rw [← HR1.out]; (try rw [HP0.out]); (try rw [HP1.out]); (try rw [HP2.out]); all_goals first | rfl | simp
  have e2 : 0 = R2 := by rw [← HR2.out]; (try rw [HP0.out]); (try rw [HP1.out]); (try rw [HP2.out]); all_goals first | rfl | simp
  have e3 : 0 = R3 := by rw [← HR3.out]; (try rw [HP0.out]); (try rw [HP1.out]); (try rw [HP2.out]); all_goals first | rfl | simp
  have e4 : false = R4 := by rw [← HR4.out]; (try rw [HP0.out]); (try rw [HP1.out]); (try rw [HP2.out]); all_goals first | rfl | simp
  have e5 : false = R5 := by rw [← HR5.out]; (try rw [HP0.out]); (try rw [HP1.out]); (try rw [HP2.out]); all_goals first | rfl | simp
  have e6 : false = R6 := by rw [← HR6.out]; (try rw [HP0.out]); (try rw [HP1.out]); (try rw [HP2.out]); all_goals first | rfl | simp
  subst e0
  subst e1
  subst e2
  subst e3
  subst e4
  subst e5
  subst e6
  go_wp2_with (first | ((with_reducible refine stRow (w.heap.size + 1 + 1) #[.int .u64 0, .int .u64 0, .int .u64 0, .int .u64 0, .int .u64 0, .int .u64 0, .int .u64 0, .int .u64 0, .int .u64 0, .int .u64 0, .int .u64 0, .int .u64 0, .int .u64 0, .int .u64 0, .int .u64 0, .int .u64 0, .bool false, .bool false] _ _ k3 ?_ ?_ ?_ ?_ ?_ ?_); rfl; rfl; (as_aux_lemma => kernel_rfl); rfl; (as_aux_lemma => kernel_rfl); simp only [Act.put]))
  first | refine post_world ?_
  intro V5 hV5
  have D1 := Lib.hid k1.lt
  have D2 := Lib.hid k2.lt
  have D3 := Lib.hid k3.lt
  have D4 := Lib.hid hb0.size
  clear k1 k2
  have nk3 : Blk V5 (w.heap.size + 1 + 1) #[.int .u64 0, .int .u64 0, .int .u64 0, .int .u64 0, .int .u64 0, .int .u64 0, .int .u64 0, .int .u64 0, .int .u64 0, .int .u64 0, .int .u64 0, .int .u64 0, .int .u64 0, .int .u64 0, .int .u64 0, .int .u64 0, .bool false, .bool false] 54 := by rw [hV5]; exact blk_row k3 _
  have nhb0 : Below w.heap.size w V5 := by rw [hV5]; exact blw_row hb0 (by omega) _
  clear k3
  clear hb0
  clear hV5
  have k3 := nk3
  clear nk3
  have hb0 := nhb0
  clear nhb0
  refine ⟨rfl, _, results_row_tmp rfl _ _ _ _ _ _ _ rfl k3 rfl rfl (by as_aux_lemma => kernel_rfl), ?_, hb0⟩
  first | rfl | kernel_rfl
end Go.Proofs.Ytlcbomjdbdgbmaa

namespace Go.Proofs.Ytlcbomjdbdgbmaa
open Go.RowKit

set_option maxRecDepth 100000 in
set_option maxHeartbeats 4000000 in

theorem pxCut_3 (ax : Int) (ay : Int) (bx : Int) (b_y : Int) (cx : Int) (cy : Int) (n : Int) (pfn : Int) (pfd : Int) (ptn : Int) (ptd : Int) (pfo : Bool) (pto : Bool) (R0 : Int) (R1 : Int) (R2 : Int) (R3 : Int) (R4 : Bool) (R5 : Bool) (R6 : Bool) (hR0 : (fun (_ : Int) (_ : Int) (_ : Int) (_ : Int) (_ : Int) (_ : Int) (_ : Int) => 0) ax ay bx b_y cx cy n = R0) (hR1 : (fun (_ : Int) (_ : Int) (_ : Int) (_ : Int) (_ : Int) (_ : Int) (_ : Int) => 0) ax ay bx b_y cx cy n = R1) (hR2 : (fun (_ : Int) (_ : Int) (_ : Int) (_ : Int) (_ : Int) (_ : Int) (_ : Int) => 0) ax ay bx b_y cx cy n = R2) (hR3 : (fun (_ : Int) (_ : Int) (_ : Int) (_ : Int) (_ : Int) (_ : Int) (_ : Int) => 0) ax ay bx b_y cx cy n = R3) (hR4 : (fun (_ : Int) (_ : Int) (_ : Int) (_ : Int) (_ : Int) (_ : Int) (_ : Int) => false) ax ay bx b_y cx cy n = R4) (hR5 : (fun (_ : Int) (_ : Int) (_ : Int) (_ : Int) (_ : Int) (_ : Int) (_ : Int) => false) ax ay bx b_y cx cy n = R5) (hR6 : (fun (_ : Int) (_ : Int) (_ : Int) (_ : Int) (_ : Int) (_ : Int) (_ : Int) => false) ax ay bx b_y cx cy n = R6) (hP0 : pxS n = true) (hP1 : sgR ax ay bx b_y = true) (hP2 : rp cx cy = true) (hP3 : rtOn 0 = 0) (hP4 : rtOd 0 = 1) (hP5 : rtOn 1 = 1) (hP6 : rtOd 1 = 1) (hP7 : bak 0 1 1 1 false false ax (wrap64 (bx - ax)) (wrap64 ((wrap64 ((wrap64 (2 * cx)) * n)) - n)) (wrap64 ((wrap64 ((wrap64 (2 * cx)) * n)) + n)) = false) (hP8 : bafn 0 1 1 1 false false ax (wrap64 (bx - ax)) (wrap64 ((wrap64 ((wrap64 (2 * cx)) * n)) - n)) (wrap64 ((wrap64 ((wrap64 (2 * cx)) * n)) + n)) = pfn) (hP9 : bafd 0 1 1 1 false false ax (wrap64 (bx - ax)) (wrap64 ((wrap64 ((wrap64 (2 * cx)) * n)) - n)) (wrap64 ((wrap64 ((wrap64 (2 * cx)) * n)) + n)) = pfd) (hP10 : batn 0 1 1 1 false false ax (wrap64 (bx - ax)) (wrap64 ((wrap64 ((wrap64 (2 * cx)) * n)) - n)) (wrap64 ((wrap64 ((wrap64 (2 * cx)) * n)) + n)) = ptn) (hP11 : batd 0 1 1 1 false false ax (wrap64 (bx - ax)) (wrap64 ((wrap64 ((wrap64 (2 * cx)) * n)) - n)) (wrap64 ((wrap64 ((wrap64 (2 * cx)) * n)) + n)) = ptd) (hP12 : bafo 0 1 1 1 false false ax (wrap64 (bx - ax)) (wrap64 ((wrap64 ((wrap64 (2 * cx)) * n)) - n)) (wrap64 ((wrap64 ((wrap64 (2 * cx)) * n)) + n)) = pfo) (hP13 : bato 0 1 1 1 false false ax (wrap64 (bx - ax)) (wrap64 ((wrap64 ((wrap64 (2 * cx)) * n)) - n)) (wrap64 ((wrap64 ((wrap64 (2 * cx)) * n)) + n)) = pto) (_ipfn : InI pfn) (_ipfd : InI pfd) (_iptn : InI ptn) (_iptd : InI ptd) (_iax : In64 ax) (_iay : In64 ay) (_ibx : In64 bx) (_ib_y : In64 b_y) (_icx : In64 cx) (_icy : In64 cy) (_in : In64 n)  (w : World)  :
    Calls Try.prog 30 #[.agg #[.int .i64 ax, .int .i64 ay, .int .i64 bx, .int .i64 b_y], .agg #[.int .i64 cx, .int .i64 cy], .int .i64 n] w fun e w' => e = .returned (.tuple #[.agg #[.int .u64 (wd0 R0), .int .u64 (wd1 R0), .int .u64 (wd2 R0), .int .u64 (wd3 R0), .int .u64 (wd0 R1), .int .u64 (wd1 R1), .int .u64 (wd2 R1), .int .u64 (wd3 R1), .int .u64 (wd0 R2), .int .u64 (wd1 R2), .int .u64 (wd2 R2), .int .u64 (wd3 R2), .int .u64 (wd0 R3), .int .u64 (wd1 R3), .int .u64 (wd2 R3), .int .u64 (wd3 R3), .bool R4, .bool R5], .bool R6]) ∧ Below w.heap.size w w' := by

  have HP0 := Lib.hid hP0
  clear hP0
  have HP1 := Lib.hid hP1
  clear hP1
  have HP2 := Lib.hid hP2
  clear hP2
  have HP3 := Lib.hid hP3
  clear hP3
  have HP4 := Lib.hid hP4
  clear hP4
  have HP5 := Lib.hid hP5
  clear hP5
  have HP6 := Lib.hid hP6
  clear hP6
  have HP7 := Lib.hid hP7
  clear hP7
  have HP8 := Lib.hid hP8
  clear hP8
  have HP9 := Lib.hid hP9
  clear hP9
  have HP10 := Lib.hid hP10
  clear hP10
  have HP11 := Lib.hid hP11
  clear hP11
  have HP12 := Lib.hid hP12
  clear hP12
  have HP13 := Lib.hid hP13
  clear hP13
  have HR0 := Lib.hid hR0
  clear hR0
  have HR1 := Lib.hid hR1
  clear hR1
  have HR2 := Lib.hid hR2
  clear hR2
  have HR3 := Lib.hid hR3
  clear hR3
  have HR4 := Lib.hid hR4
  clear hR4
  have HR5 := Lib.hid hR5
  clear hR5
  have HR6 := Lib.hid hR6
  clear hR6
  go_enter Try.func30, Try.ntmps30
  go_wp2_with fail
  first | refine calls_w ?_ | refine name_world ?_ | refine list_world ?_ | refine post_world ?_
  intro V1 hV1
  have hn : Below w.heap.size w V1 := by rw [hV1]; exact below_a3 _ _ _ _
  have nhb0 := hn
  have k1 : Blk V1 w.heap.size #[.int .i64 ax, .int .i64 ay, .int .i64 bx, .int .i64 b_y] 50 := by rw [hV1]; exact (((Blk.new _ _ _).alloc _).alloc _)
  have k2 : Blk V1 (w.heap.size + 1) #[.int .i64 cx, .int .i64 cy] 24 := by rw [hV1]; exact ((Blk.new1 _ _ _ _).alloc _)
  have k3 : Blk V1 (w.heap.size + 1 + 1) #[.int .u64 0, .int .u64 0, .int .u64 0, .int .u64 0, .int .u64 0, .int .u64 0, .int .u64 0, .int .u64 0, .int .u64 0, .int .u64 0, .int .u64 0, .int .u64 0, .int .u64 0, .int .u64 0, .int .u64 0, .int .u64 0, .bool false, .bool false] 54 := by rw [hV1]; exact (Blk.new2 _ _ _ _ _)
  clear hV1
  have hb0 := nhb0
  clear nhb0
  refine (pxSize_is n true HP0.out _in  _).mono ?_
  rintro e U2 ⟨rfl, hn⟩
  replace k1 := k1.of hn
  replace k2 := k2.of hn
  replace k3 := k3.of hn
  replace hb0 := hb0.trans (hn.mono hb0.size)
  clear hn
  have c1_0 : U2.cell? ⟨w.heap.size, 0, none⟩ = some (.int .i64 ax) := k1.cell 0
  have c1_1 : U2.cell? ⟨w.heap.size, 1, none⟩ = some (.int .i64 ay) := k1.cell 1
  have c1_2 : U2.cell? ⟨w.heap.size, 2, none⟩ = some (.int .i64 bx) := k1.cell 2
  have c1_3 : U2.cell? ⟨w.heap.size, 3, none⟩ = some (.int .i64 b_y) := k1.cell 3
  have l1 := k1.lt
  go_wp2_with fail
  clear c1_0 c1_1 c1_2 c1_3 l1
  refine (SegRight_is ax ay bx b_y true HP1.out _iax _iay _ibx _ib_y  _).mono ?_
  rintro e U3 ⟨rfl, hn⟩
  replace k1 := k1.of hn
  replace k2 := k2.of hn
  replace k3 := k3.of hn
  replace hb0 := hb0.trans (hn.mono hb0.size)
  clear hn
  have c2_0 : U3.cell? ⟨(w.heap.size + 1), 0, none⟩ = some (.int .i64 cx) := k2.cell 0
  have c2_1 : U3.cell? ⟨(w.heap.size + 1), 1, none⟩ = some (.int .i64 cy) := k2.cell 1
  have l2 := k2.lt
  go_wp2_with fail
  clear c2_0 c2_1 l2
  refine (PtRight_v cx cy true HP2.out _).mono ?_
  rintro e U4 ⟨rfl, hn⟩
  replace k1 := k1.of hn
  replace k2 := k2.of hn
  replace k3 := k3.of hn
  replace hb0 := hb0.trans (hn.mono hb0.size)
  clear hn
  go_wp2_with fail
  refine (rtOf_is 0 0 1 HP3.out HP4.out (by unfold In64; omega)  _).mono ?_
  rintro e U5 ⟨rfl, hn⟩
  replace k1 := k1.of hn
  replace k2 := k2.of hn
  replace k3 := k3.of hn
  replace hb0 := hb0.trans (hn.mono hb0.size)
  clear hn
  go_wp2_with fail
  refine (rtOf_is 1 1 1 HP5.out HP6.out (by unfold In64; omega)  _).mono ?_
  rintro e U6 ⟨rfl, hn⟩
  replace k1 := k1.of hn
  replace k2 := k2.of hn
  replace k3 := k3.of hn
  replace hb0 := hb0.trans (hn.mono hb0.size)
  clear hn
  go_wp2_with (first | ((with_reducible refine stRow (U6.heap.size) #[.int .u64 (wd0 0), .int .u64 (wd1 0), .int .u64 (wd2 0), .int .u64 (wd3 0), .int .u64 (wd0 1), .int .u64 (wd1 1), .int .u64 (wd2 1), .int .u64 (wd3 1), .int .u64 (wd0 1), .int .u64 (wd1 1), .int .u64 (wd2 1), .int .u64 (wd3 1), .int .u64 (wd0 1), .int .u64 (wd1 1), .int .u64 (wd2 1), .int .u64 (wd3 1), .bool false, .bool false] _ _ (Blk.new _ _ _) ?_ ?_ ?_ ?_ ?_ ?_); rfl; rfl; (as_aux_lemma => kernel_rfl); rfl; (as_aux_lemma => kernel_rfl); simp only [Act.put]))
  first | refine calls_w ?_ | refine name_world ?_ | refine list_world ?_ | refine post_world ?_
  intro V7 hV7
  rw [World.setRow_alloc_new] at hV7
  have D1 := Lib.hid k1.lt
  have D2 := Lib.hid k2.lt
  have D3 := Lib.hid k3.lt
  have D4 := Lib.hid hb0.size
  have hn : Below U6.heap.size U6 V7 := by rw [hV7]; exact below_a1 _ _
  have nk1 := k1.of hn
  have nk2 := k2.of hn
  have nk3 := k3.of hn
  have nhb0 := hb0.trans (hn.mono hb0.size)
  clear hn
  have k4 : Blk V7 U6.heap.size #[.int .u64 (wd0 0), .int .u64 (wd1 0), .int .u64 (wd2 0), .int .u64 (wd3 0), .int .u64 (wd0 1), .int .u64 (wd1 1), .int .u64 (wd2 1), .int .u64 (wd3 1), .int .u64 (wd0 1), .int .u64 (wd1 1), .int .u64 (wd2 1), .int .u64 (wd3 1), .int .u64 (wd0 1), .int .u64 (wd1 1), .int .u64 (wd2 1), .int .u64 (wd3 1), .bool false, .bool false] 54 := by rw [hV7]; exact (Blk.new _ _ _)
  clear k1 k2 k3
  clear hb0
  clear hV7
  have k1 := nk1
  clear nk1
  have k2 := nk2
  clear nk2
  have k3 := nk3
  clear nk3
  have hb0 := nhb0
  clear nhb0
  have c2_0 : V7.cell? ⟨(w.heap.size + 1), 0, none⟩ = some (.int .i64 cx) := k2.cell 0
  have c2_1 : V7.cell? ⟨(w.heap.size + 1), 1, none⟩ = some (.int .i64 cy) := k2.cell 1
  have l2 := k2.lt
  have Kk1 := Lib.hid k1
  clear k1
  have Kk2 := Lib.hid k2
  clear k2
  have Kk3 := Lib.hid k3
  clear k3
  have Kk4 := Lib.hid k4
  clear k4
  refine wp_region_up V7.heap.size 11 [(true, 0), (true, 1), (true, 2), (true, 3), (true, 4), (true, 5), (true, 6), (true, 7), (true, 8), (true, 9), (true, 10)] (by kernel_rfl) (by kernel_rfl) (fun _ _ d _ _ h => by cases d <;> exact h) ?_
  have hb : Below V7.heap.size V7 V7.drew := (Below.refl _ _).drew
  iterate 11
    refine wpS_takeL rfl rfl ?_
    go_big_quiet_step (rfl)
    refine wpQuiet_nil ?_
  refine wpS_nil ?_
  simp only [List.drop_succ_cons, List.drop_zero]
  first | refine calls_w ?_ | refine name_world ?_ | refine list_world ?_ | refine post_world ?_
  intro U8 hU8
  first | (subst hU8; have u_ := U8; clear u_) | (rw [← hU8] at hb; clear hU8)
  clear c2_0 c2_1 l2
  have k1 := Kk1.out.of hb
  clear Kk1
  have k2 := Kk2.out.of hb
  clear Kk2
  have k3 := Kk3.out.of hb
  clear Kk3
  have k4 := Kk4.out.of hb
  clear Kk4
  replace hb0 := hb0.trans (hb.mono hb0.size)
  clear hb
  have c1_0 : U8.cell? ⟨w.heap.size, 0, none⟩ = some (.int .i64 ax) := k1.cell 0
  have c1_2 : U8.cell? ⟨w.heap.size, 2, none⟩ = some (.int .i64 bx) := k1.cell 2
  have l1 := k1.lt
  go_wp2_with fail
  clear c1_0 c1_2 l1
  refine (pxba_is 0 1 1 1 false false ax (wrap64 (bx - ax)) (wrap64 ((wrap64 ((wrap64 (2 * cx)) * n)) - n)) (wrap64 ((wrap64 ((wrap64 (2 * cx)) * n)) + n)) false pfn pfd ptn ptd pfo pto HP7.out HP8.out HP9.out HP10.out HP11.out HP12.out HP13.out (by unfold InI b255; omega) (by unfold InI b255; omega) (by unfold InI b255; omega) (by unfold InI b255; omega) _iax (wrap64_in _) (wrap64_in _) (wrap64_in _) (U6.heap.size) _ k4).mono ?_
  rintro e U9 ⟨rfl, hk_, hn⟩
  clear k2
  replace k1 := k1.below hn (by have := D1.out; omega)
  replace k3 := k3.below hn (by have := D3.out; omega)
  replace k4 := hk_
  clear hk_
  replace hb0 := hb0.trans (hn.mono (by have := D4.out; omega))
  clear hn
  have e0 : 0 = R0 := by rw [← HR0.out]; (try rw [HP0.out]); (try rw [HP1.out]); (try rw [HP2.out]); (try rw [HP3.out]); (try rw [HP4.out]); (try rw [HP5.out]); (try rw [HP6.out]); (try rw [HP7.out]); (try rw [HP8.out]); (try rw [HP9.out]); (try rw [HP10.out]); (try rw [HP11.out]); (try rw [HP12.out]); (try rw [HP13.out]); all_goals first | rfl | simp
  have e1 : 0 = R1 := by rw [← HR1.out]; (try rw [HP0.out]); (try rw [HP1.out]); (try rw [HP2.out]); (try rw [HP3.out]); (try rw [HP4.out]); (try rw [HP5.out]); (try rw [HP6.out]); (try rw [HP7.out]); (try rw [HP8.out]); (try rw [HP9.out]); (try rw [HP10.out]); (try rw [HP11.out]); (try rw [HP12.out]); (try rw [HP13.out]); all_goals first | rfl | simp
  have e2 : 0 = R2 := by rw [← HR2.out]; (try rw [HP0.out]); (try rw [HP1.out]); (try rw [HP2.out]); (try rw [HP3.out]); (try rw [HP4.out]); (try rw [HP5.out]); (try rw [HP6.out]); (try rw [HP7.out]); (try rw [HP8.out]); (try rw [HP9.out]); (try rw [HP10.out]); (try rw [HP11.out]); (try rw [HP12.out]); (try rw [HP13.out]); all_goals first | rfl | simp
  have e3 : 0 = R3 := by rw [← HR3.out]; (try rw [HP0.out]); (try rw [HP1.out]); (try rw [HP2.out]); (try rw [HP3.out]); (try rw [HP4.out]); (try rw [HP5.out]); (try rw [HP6.out]); (try rw [HP7.out]); (try rw [HP8.out]); (try rw [HP9.out]); (try rw [HP10.out]); (try rw [HP11.out]); (try rw [HP12.out]); (try rw [HP13.out]); all_goals first | rfl | simp
  have e4 : false = R4 := by rw [← HR4.out]; (try rw [HP0.out]); (try rw [HP1.out]); (try rw [HP2.out]); (try rw [HP3.out]); (try rw [HP4.out]); (try rw [HP5.out]); (try rw [HP6.out]); (try rw [HP7.out]); (try rw [HP8.out]); (try rw [HP9.out]); (try rw [HP10.out]); (try rw [HP11.out]); (try rw [HP12.out]); (try rw [HP13.out]); all_goals first | rfl | simp
  have e5 : false = R5 := by rw [← HR5.out]; (try rw [HP0.out]); (try rw [HP1.out]); (try rw [HP2.out]); (try rw [HP3.out]); (try rw [HP4.out]); (try rw [HP5.out]); (try rw [HP6.out]); (try rw [HP7.out]); (try rw [HP8.out]); (try rw [HP9.out]); (try rw [HP10.out]); (try rw [HP11.out]); (try rw [HP12.out]); (try rw [HP13.out]); all_goals first | rfl | simp
  have e6 : false = R6 := by rw [← HR6.out]; (try rw [HP0.out]); (try rw [HP1.out]); (try rw [HP2.out]); (try rw [HP3.out]); (try rw [HP4.out]); (try rw [HP5.out]); (try rw [HP6.out]); (try rw [HP7.out]); (try rw [HP8.out]); (try rw [HP9.out]); (try rw [HP10.out]); (try rw [HP11.out]); (try rw [HP12.out]); (try rw [HP13.out]); all_goals first | rfl | simp
  subst e0
  subst e1
  subst e2
  subst e3
  subst e4
  subst e5
  subst e6
  go_wp2_with (first | ((with_reducible refine stRow (w.heap.size + 1 + 1) #[.int .u64 0, .int .u64 0, .int .u64 0, .int .u64 0, .int .u64 0, .int .u64 0, .int .u64 0, .int .u64 0, .int .u64 0, .int .u64 0, .int .u64 0, .int .u64 0, .int .u64 0, .int .u64 0, .int .u64 0, .int .u64 0, .bool false, .bool false] _ _ k3 ?_ ?_ ?_ ?_ ?_ ?_); rfl; rfl; (as_aux_lemma => kernel_rfl); rfl; (as_aux_lemma => kernel_rfl); simp only [Act.put]))
  first | refine post_world ?_
  intro V10 hV10
  clear k1
  have D5 := Lib.hid k3.lt
  have D6 := Lib.hid k4.lt
  have D7 := Lib.hid hb0.size
  clear k4
  have nk3 : Blk V10 (w.heap.size + 1 + 1) #[.int .u64 0, .int .u64 0, .int .u64 0, .int .u64 0, .int .u64 0, .int .u64 0, .int .u64 0, .int .u64 0, .int .u64 0, .int .u64 0, .int .u64 0, .int .u64 0, .int .u64 0, .int .u64 0, .int .u64 0, .int .u64 0, .bool false, .bool false] 54 := by rw [hV10]; exact blk_row k3 _
  have nhb0 : Below w.heap.size w V10 := by rw [hV10]; exact blw_row hb0 (by omega) _
  clear k3
  clear hb0
  clear hV10
  have k3 := nk3
  clear nk3
  have hb0 := nhb0
  clear nhb0
  refine ⟨rfl, _, results_row_tmp rfl _ _ _ _ _ _ _ rfl k3 rfl rfl (by as_aux_lemma => kernel_rfl), ?_, hb0⟩
  first | rfl | kernel_rfl

set_option maxRecDepth 100000 in
set_option maxHeartbeats 4000000 in

theorem pxCut_4 (ax : Int) (ay : Int) (bx : Int) (b_y : Int) (cx : Int) (cy : Int) (n : Int) (pfn : Int) (pfd : Int) (ptn : Int) (ptd : Int) (pfo : Bool) (pto : Bool) (qfn : Int) (qfd : Int) (qtn : Int) (qtd : Int) (qfo : Bool) (qto : Bool) (R0 : Int) (R1 : Int) (R2 : Int) (R3 : Int) (R4 : Bool) (R5 : Bool) (R6 : Bool) (hR0 : (fun (_ : Int) (_ : Int) (_ : Int) (_ : Int) (_ : Int) (_ : Int) (_ : Int) => 0) ax ay bx b_y cx cy n = R0) (hR1 : (fun (_ : Int) (_ : Int) (_ : Int) (_ : Int) (_ : Int) (_ : Int) (_ : Int) => 0) ax ay bx b_y cx cy n = R1) (hR2 : (fun (_ : Int) (_ : Int) (_ : Int) (_ : Int) (_ : Int) (_ : Int) (_ : Int) => 0) ax ay bx b_y cx cy n = R2) (hR3 : (fun (_ : Int) (_ : Int) (_ : Int) (_ : Int) (_ : Int) (_ : Int) (_ : Int) => 0) ax ay bx b_y cx cy n = R3) (hR4 : (fun (_ : Int) (_ : Int) (_ : Int) (_ : Int) (_ : Int) (_ : Int) (_ : Int) => false) ax ay bx b_y cx cy n = R4) (hR5 : (fun (_ : Int) (_ : Int) (_ : Int) (_ : Int) (_ : Int) (_ : Int) (_ : Int) => false) ax ay bx b_y cx cy n = R5) (hR6 : (fun (_ : Int) (_ : Int) (_ : Int) (_ : Int) (_ : Int) (_ : Int) (_ : Int) => false) ax ay bx b_y cx cy n = R6) (hP0 : pxS n = true) (hP1 : sgR ax ay bx b_y = true) (hP2 : rp cx cy = true) (hP3 : rtOn 0 = 0) (hP4 : rtOd 0 = 1) (hP5 : rtOn 1 = 1) (hP6 : rtOd 1 = 1) (hP7 : bak 0 1 1 1 false false ax (wrap64 (bx - ax)) (wrap64 ((wrap64 ((wrap64 (2 * cx)) * n)) - n)) (wrap64 ((wrap64 ((wrap64 (2 * cx)) * n)) + n)) = true) (hP8 : bafn 0 1 1 1 false false ax (wrap64 (bx - ax)) (wrap64 ((wrap64 ((wrap64 (2 * cx)) * n)) - n)) (wrap64 ((wrap64 ((wrap64 (2 * cx)) * n)) + n)) = pfn) (hP9 : bafd 0 1 1 1 false false ax (wrap64 (bx - ax)) (wrap64 ((wrap64 ((wrap64 (2 * cx)) * n)) - n)) (wrap64 ((wrap64 ((wrap64 (2 * cx)) * n)) + n)) = pfd) (hP10 : batn 0 1 1 1 false false ax (wrap64 (bx - ax)) (wrap64 ((wrap64 ((wrap64 (2 * cx)) * n)) - n)) (wrap64 ((wrap64 ((wrap64 (2 * cx)) * n)) + n)) = ptn) (hP11 : batd 0 1 1 1 false false ax (wrap64 (bx - ax)) (wrap64 ((wrap64 ((wrap64 (2 * cx)) * n)) - n)) (wrap64 ((wrap64 ((wrap64 (2 * cx)) * n)) + n)) = ptd) (hP12 : bafo 0 1 1 1 false false ax (wrap64 (bx - ax)) (wrap64 ((wrap64 ((wrap64 (2 * cx)) * n)) - n)) (wrap64 ((wrap64 ((wrap64 (2 * cx)) * n)) + n)) = pfo) (hP13 : bato 0 1 1 1 false false ax (wrap64 (bx - ax)) (wrap64 ((wrap64 ((wrap64 (2 * cx)) * n)) - n)) (wrap64 ((wrap64 ((wrap64 (2 * cx)) * n)) + n)) = pto) (hP14 : bak pfn pfd ptn ptd pfo pto ay (wrap64 (b_y - ay)) (wrap64 ((wrap64 ((wrap64 (2 * cy)) * n)) - n)) (wrap64 ((wrap64 ((wrap64 (2 * cy)) * n)) + n)) = false) (hP15 : bafn pfn pfd ptn ptd pfo pto ay (wrap64 (b_y - ay)) (wrap64 ((wrap64 ((wrap64 (2 * cy)) * n)) - n)) (wrap64 ((wrap64 ((wrap64 (2 * cy)) * n)) + n)) = qfn) (hP16 : bafd pfn pfd ptn ptd pfo pto ay (wrap64 (b_y - ay)) (wrap64 ((wrap64 ((wrap64 (2 * cy)) * n)) - n)) (wrap64 ((wrap64 ((wrap64 (2 * cy)) * n)) + n)) = qfd) (hP17 : batn pfn pfd ptn ptd pfo pto ay (wrap64 (b_y - ay)) (wrap64 ((wrap64 ((wrap64 (2 * cy)) * n)) - n)) (wrap64 ((wrap64 ((wrap64 (2 * cy)) * n)) + n)) = qtn) (hP18 : batd pfn pfd ptn ptd pfo pto ay (wrap64 (b_y - ay)) (wrap64 ((wrap64 ((wrap64 (2 * cy)) * n)) - n)) (wrap64 ((wrap64 ((wrap64 (2 * cy)) * n)) + n)) = qtd) (hP19 : bafo pfn pfd ptn ptd pfo pto ay (wrap64 (b_y - ay)) (wrap64 ((wrap64 ((wrap64 (2 * cy)) * n)) - n)) (wrap64 ((wrap64 ((wrap64 (2 * cy)) * n)) + n)) = qfo) (hP20 : bato pfn pfd ptn ptd pfo pto ay (wrap64 (b_y - ay)) (wrap64 ((wrap64 ((wrap64 (2 * cy)) * n)) - n)) (wrap64 ((wrap64 ((wrap64 (2 * cy)) * n)) + n)) = qto) (_ipfn : InI pfn) (_ipfd : InI pfd) (_iptn : InI ptn) (_iptd : InI ptd) (_iqfn : InI qfn) (_iqfd : InI qfd) (_iqtn : InI qtn) (_iqtd : InI qtd) (_iax : In64 ax) (_iay : In64 ay) (_ibx : In64 bx) (_ib_y : In64 b_y) (_icx : In64 cx) (_icy : In64 cy) (_in : In64 n)  (w : World)  :
    Calls Try.prog 30 #[.agg #[.int .i64 ax, .int .i64 ay, .int .i64 bx, .int .i64 b_y], .agg #[.int .i64 cx, .int .i64 cy], .int .i64 n] w fun e w' => e = .returned (.tuple #[.agg #[.int .u64 (wd0 R0), .int .u64 (wd1 R0), .int .u64 (wd2 R0), .int .u64 (wd3 R0), .int .u64 (wd0 R1), .int .u64 (wd1 R1), .int .u64 (wd2 R1), .int .u64 (wd3 R1), .int .u64 (wd0 R2), .int .u64 (wd1 R2), .int .u64 (wd2 R2), .int .u64 (wd3 R2), .int .u64 (wd0 R3), .int .u64 (wd1 R3), .int .u64 (wd2 R3), .int .u64 (wd3 R3), .bool R4, .bool R5], .bool R6]) ∧ Below w.heap.size w w' := by

  have HP0 := Lib.hid hP0
  clear hP0
  have HP1 := Lib.hid hP1
  clear hP1
  have HP2 := Lib.hid hP2
  clear hP2
  have HP3 := Lib.hid hP3
  clear hP3
  have HP4 := Lib.hid hP4
  clear hP4
  have HP5 := Lib.hid hP5
  clear hP5
  have HP6 := Lib.hid hP6
  clear hP6
  have HP7 := Lib.hid hP7
  clear hP7
  have HP8 := Lib.hid hP8
  clear hP8
  have HP9 := Lib.hid hP9
  clear hP9
  have HP10 := Lib.hid hP10
  clear hP10
  have HP11 := Lib.hid hP11
  clear hP11
  have HP12 := Lib.hid hP12
  clear hP12
  have HP13 := Lib.hid hP13
  clear hP13
  have HP14 := Lib.hid hP14
  clear hP14
  have HP15 := Lib.hid hP15
  clear hP15
  have HP16 := Lib.hid hP16
  clear hP16
  have HP17 := Lib.hid hP17
  clear hP17
  have HP18 := Lib.hid hP18
  clear hP18
  have HP19 := Lib.hid hP19
  clear hP19
  have HP20 := Lib.hid hP20
  clear hP20
  have HR0 := Lib.hid hR0
  clear hR0
  have HR1 := Lib.hid hR1
  clear hR1
  have HR2 := Lib.hid hR2
  clear hR2
  have HR3 := Lib.hid hR3
  clear hR3
  have HR4 := Lib.hid hR4
  clear hR4
  have HR5 := Lib.hid hR5
  clear hR5
  have HR6 := Lib.hid hR6
  clear hR6
  go_enter Try.func30, Try.ntmps30
  go_wp2_with fail
  first | refine calls_w ?_ | refine name_world ?_ | refine list_world ?_ | refine post_world ?_
  intro V1 hV1
  have hn : Below w.heap.size w V1 := by rw [hV1]; exact below_a3 _ _ _ _
  have nhb0 := hn
  have k1 : Blk V1 w.heap.size #[.int .i64 ax, .int .i64 ay, .int .i64 bx, .int .i64 b_y] 50 := by rw [hV1]; exact (((Blk.new _ _ _).alloc _).alloc _)
  have k2 : Blk V1 (w.heap.size + 1) #[.int .i64 cx, .int .i64 cy] 24 := by rw [hV1]; exact ((Blk.new1 _ _ _ _).alloc _)
  have k3 : Blk V1 (w.heap.size + 1 + 1) #[.int .u64 0, .int .u64 0, .int .u64 0, .int .u64 0, .int .u64 0, .int .u64 0, .int .u64 0, .int .u64 0, .int .u64 0, .int .u64 0, .int .u64 0, .int .u64 0, .int .u64 0, .int .u64 0, .int .u64 0, .int .u64 0, .bool false, .bool false] 54 := by rw [hV1]; exact (Blk.new2 _ _ _ _ _)
  clear hV1
  have hb0 := nhb0
  clear nhb0
  refine (pxSize_is n true HP0.out _in  _).mono ?_
  rintro e U2 ⟨rfl, hn⟩
  replace k1 := k1.of hn
  replace k2 := k2.of hn
  replace k3 := k3.of hn
  replace hb0 := hb0.trans (hn.mono hb0.size)
  clear hn
  have c1_0 : U2.cell? ⟨w.heap.size, 0, none⟩ = some (.int .i64 ax) := k1.cell 0
  have c1_1 : U2.cell? ⟨w.heap.size, 1, none⟩ = some (.int .i64 ay) := k1.cell 1
  have c1_2 : U2.cell? ⟨w.heap.size, 2, none⟩ = some (.int .i64 bx) := k1.cell 2
  have c1_3 : U2.cell? ⟨w.heap.size, 3, none⟩ = some (.int .i64 b_y) := k1.cell 3
  have l1 := k1.lt
  go_wp2_with fail
  clear c1_0 c1_1 c1_2 c1_3 l1
  refine (SegRight_is ax ay bx b_y true HP1.out _iax _iay _ibx _ib_y  _).mono ?_
  rintro e U3 ⟨rfl, hn⟩
  replace k1 := k1.of hn
  replace k2 := k2.of hn
  replace k3 := k3.of hn
  replace hb0 := hb0.trans (hn.mono hb0.size)
  clear hn
  have c2_0 : U3.cell? ⟨(w.heap.size + 1), 0, none⟩ = some (.int .i64 cx) := k2.cell 0
  have c2_1 : U3.cell? ⟨(w.heap.size + 1), 1, none⟩ = some (.int .i64 cy) := k2.cell 1
  have l2 := k2.lt
  go_wp2_with fail
  clear c2_0 c2_1 l2
  refine (PtRight_v cx cy true HP2.out _).mono ?_
  rintro e U4 ⟨rfl, hn⟩
  replace k1 := k1.of hn
  replace k2 := k2.of hn
  replace k3 := k3.of hn
  replace hb0 := hb0.trans (hn.mono hb0.size)
  clear hn
  go_wp2_with fail
  refine (rtOf_is 0 0 1 HP3.out HP4.out (by unfold In64; omega)  _).mono ?_
  rintro e U5 ⟨rfl, hn⟩
  replace k1 := k1.of hn
  replace k2 := k2.of hn
  replace k3 := k3.of hn
  replace hb0 := hb0.trans (hn.mono hb0.size)
  clear hn
  go_wp2_with fail
  refine (rtOf_is 1 1 1 HP5.out HP6.out (by unfold In64; omega)  _).mono ?_
  rintro e U6 ⟨rfl, hn⟩
  replace k1 := k1.of hn
  replace k2 := k2.of hn
  replace k3 := k3.of hn
  replace hb0 := hb0.trans (hn.mono hb0.size)
  clear hn
  go_wp2_with (first | ((with_reducible refine stRow (U6.heap.size) #[.int .u64 (wd0 0), .int .u64 (wd1 0), .int .u64 (wd2 0), .int .u64 (wd3 0), .int .u64 (wd0 1), .int .u64 (wd1 1), .int .u64 (wd2 1), .int .u64 (wd3 1), .int .u64 (wd0 1), .int .u64 (wd1 1), .int .u64 (wd2 1), .int .u64 (wd3 1), .int .u64 (wd0 1), .int .u64 (wd1 1), .int .u64 (wd2 1), .int .u64 (wd3 1), .bool false, .bool false] _ _ (Blk.new _ _ _) ?_ ?_ ?_ ?_ ?_ ?_); rfl; rfl; (as_aux_lemma => kernel_rfl); rfl; (as_aux_lemma => kernel_rfl); simp only [Act.put]))
  first | refine calls_w ?_ | refine name_world ?_ | refine list_world ?_ | refine post_world ?_
  intro V7 hV7
  rw [World.setRow_alloc_new] at hV7
  have D1 := Lib.hid k1.lt
  have D2 := Lib.hid k2.lt
  have D3 := Lib.hid k3.lt
  have D4 := Lib.hid hb0.size
  have hn : Below U6.heap.size U6 V7 := by rw [hV7]; exact below_a1 _ _
  have nk1 := k1.of hn
  have nk2 := k2.of hn
  have nk3 := k3.of hn
  have nhb0 := hb0.trans (hn.mono hb0.size)
  clear hn
  have k4 : Blk V7 U6.heap.size #[.int .u64 (wd0 0), .int .u64 (wd1 0), .int .u64 (wd2 0), .int .u64 (wd3 0), .int .u64 (wd0 1), .int .u64 (wd1 1), .int .u64 (wd2 1), .int .u64 (wd3 1), .int .u64 (wd0 1), .int .u64 (wd1 1), .int .u64 (wd2 1), .int .u64 (wd3 1), .int .u64 (wd0 1), .int .u64 (wd1 1), .int .u64 (wd2 1), .int .u64 (wd3 1), .bool false, .bool false] 54 := by rw [hV7]; exact (Blk.new _ _ _)
  clear k1 k2 k3
  clear hb0
  clear hV7
  have k1 := nk1
  clear nk1
  have k2 := nk2
  clear nk2
  have k3 := nk3
  clear nk3
  have hb0 := nhb0
  clear nhb0
  have c2_0 : V7.cell? ⟨(w.heap.size + 1), 0, none⟩ = some (.int .i64 cx) := k2.cell 0
  have c2_1 : V7.cell? ⟨(w.heap.size + 1), 1, none⟩ = some (.int .i64 cy) := k2.cell 1
  have l2 := k2.lt
  have Kk1 := Lib.hid k1
  clear k1
  have Kk2 := Lib.hid k2
  clear k2
  have Kk3 := Lib.hid k3
  clear k3
  have Kk4 := Lib.hid k4
  clear k4
  refine wp_region_up V7.heap.size 11 [(true, 0), (true, 1), (true, 2), (true, 3), (true, 4), (true, 5), (true, 6), (true, 7), (true, 8), (true, 9), (true, 10)] (by kernel_rfl) (by kernel_rfl) (fun _ _ d _ _ h => by cases d <;> exact h) ?_
  have hb : Below V7.heap.size V7 V7.drew := (Below.refl _ _).drew
  iterate 11
    refine wpS_takeL rfl rfl ?_
    go_big_quiet_step (rfl)
    refine wpQuiet_nil ?_
  refine wpS_nil ?_
  simp only [List.drop_succ_cons, List.drop_zero]
  first | refine calls_w ?_ | refine name_world ?_ | refine list_world ?_ | refine post_world ?_
  intro U8 hU8
  first | (subst hU8; have u_ := U8; clear u_) | (rw [← hU8] at hb; clear hU8)
  clear c2_0 c2_1 l2
  have k1 := Kk1.out.of hb
  clear Kk1
  have k2 := Kk2.out.of hb
  clear Kk2
  have k3 := Kk3.out.of hb
  clear Kk3
  have k4 := Kk4.out.of hb
  clear Kk4
  replace hb0 := hb0.trans (hb.mono hb0.size)
  clear hb
  have c1_0 : U8.cell? ⟨w.heap.size, 0, none⟩ = some (.int .i64 ax) := k1.cell 0
  have c1_2 : U8.cell? ⟨w.heap.size, 2, none⟩ = some (.int .i64 bx) := k1.cell 2
  have l1 := k1.lt
  go_wp2_with fail
  clear c1_0 c1_2 l1
  refine (pxba_is 0 1 1 1 false false ax (wrap64 (bx - ax)) (wrap64 ((wrap64 ((wrap64 (2 * cx)) * n)) - n)) (wrap64 ((wrap64 ((wrap64 (2 * cx)) * n)) + n)) true pfn pfd ptn ptd pfo pto HP7.out HP8.out HP9.out HP10.out HP11.out HP12.out HP13.out (by unfold InI b255; omega) (by unfold InI b255; omega) (by unfold InI b255; omega) (by unfold InI b255; omega) _iax (wrap64_in _) (wrap64_in _) (wrap64_in _) (U6.heap.size) _ k4).mono ?_
  rintro e U9 ⟨rfl, hk_, hn⟩
  clear k2
  replace k1 := k1.below hn (by have := D1.out; omega)
  replace k3 := k3.below hn (by have := D3.out; omega)
  replace k4 := hk_
  clear hk_
  replace hb0 := hb0.trans (hn.mono (by have := D4.out; omega))
  clear hn
  have c1_1 : U9.cell? ⟨w.heap.size, 1, none⟩ = some (.int .i64 ay) := k1.cell 1
  have c1_3 : U9.cell? ⟨w.heap.size, 3, none⟩ = some (.int .i64 b_y) := k1.cell 3
  have l1 := k1.lt
  go_wp2_with fail
  clear c1_1 c1_3 l1
  refine (pxba_is pfn pfd ptn ptd pfo pto ay (wrap64 (b_y - ay)) (wrap64 ((wrap64 ((wrap64 (2 * cy)) * n)) - n)) (wrap64 ((wrap64 ((wrap64 (2 * cy)) * n)) + n)) false qfn qfd qtn qtd qfo qto HP14.out HP15.out HP16.out HP17.out HP18.out HP19.out HP20.out _ipfn _ipfd _iptn _iptd _iay (wrap64_in _) (wrap64_in _) (wrap64_in _) (U6.heap.size) _ k4).mono ?_
  rintro e U10 ⟨rfl, hk_, hn⟩
  clear k1
  replace k3 := k3.below hn (by have := D3.out; omega)
  replace k4 := hk_
  clear hk_
  replace hb0 := hb0.trans (hn.mono (by have := D4.out; omega))
  clear hn
  have e0 : 0 = R0 := by rw [← HR0.out]; (try rw [HP0.out]); (try rw [HP1.out]); (try rw [HP2.out]); (try rw [HP3.out]); (try rw [HP4.out]); (try rw [HP5.out]); (try rw [HP6.out]); (try rw [HP7.out]); (try rw [HP8.out]); (try rw [HP9.out]); (try rw [HP10.out]); (try rw [HP11.out]); (try rw [HP12.out]); (try rw [HP13.out]); (try rw [HP14.out]); (try rw [HP15.out]); (try rw [HP16.out]); (try rw [HP17.out]); (try rw [HP18.out]); (try rw [HP19.out]); (try rw [HP20.out]); all_goals first | rfl | simp
  have e1 : 0 = R1 := by rw [← HR1.out]; (try rw [HP0.out]); (try rw [HP1.out]); (try rw [HP2.out]); (try rw [HP3.out]); (try rw [HP4.out]); (try rw [HP5.out]); (try rw [HP6.out]); (try rw [HP7.out]); (try rw [HP8.out]); (try rw [HP9.out]); (try rw [HP10.out]); (try rw [HP11.out]); (try rw [HP12.out]); (try rw [HP13.out]); (try rw [HP14.out]); (try rw [HP15.out]); (try rw [HP16.out]); (try rw [HP17.out]); (try rw [HP18.out]); (try rw [HP19.out]); (try rw [HP20.out]); all_goals first | rfl | simp
  have e2 : 0 = R2 := by rw [← HR2.out]; (try rw [HP0.out]); (try rw [HP1.out]); (try rw [HP2.out]); (try rw [HP3.out]); (try rw [HP4.out]); (try rw [HP5.out]); (try rw [HP6.out]); (try rw [HP7.out]); (try rw [HP8.out]); (try rw [HP9.out]); (try rw [HP10.out]); (try rw [HP11.out]); (try rw [HP12.out]); (try rw [HP13.out]); (try rw [HP14.out]); (try rw [HP15.out]); (try rw [HP16.out]); (try rw [HP17.out]); (try rw [HP18.out]); (try rw [HP19.out]); (try rw [HP20.out]); all_goals first | rfl | simp
  have e3 : 0 = R3 := by rw [← HR3.out]; (try rw [HP0.out]); (try rw [HP1.out]); (try rw [HP2.out]); (try rw [HP3.out]); (try rw [HP4.out]); (try rw [HP5.out]); (try rw [HP6.out]); (try rw [HP7.out]); (try rw [HP8.out]); (try rw [HP9.out]); (try rw [HP10.out]); (try rw [HP11.out]); (try rw [HP12.out]); (try rw [HP13.out]); (try rw [HP14.out]); (try rw [HP15.out]); (try rw [HP16.out]); (try rw [HP17.out]); (try rw [HP18.out]); (try rw [HP19.out]); (try rw [HP20.out]); all_goals first | rfl | simp
  have e4 : false = R4 := by rw [← HR4.out]; (try rw [HP0.out]); (try rw [HP1.out]); (try rw [HP2.out]); (try rw [HP3.out]); (try rw [HP4.out]); (try rw [HP5.out]); (try rw [HP6.out]); (try rw [HP7.out]); (try rw [HP8.out]); (try rw [HP9.out]); (try rw [HP10.out]); (try rw [HP11.out]); (try rw [HP12.out]); (try rw [HP13.out]); (try rw [HP14.out]); (try rw [HP15.out]); (try rw [HP16.out]); (try rw [HP17.out]); (try rw [HP18.out]); (try rw [HP19.out]); (try rw [HP20.out]); all_goals first | rfl | simp
  have e5 : false = R5 := by rw [← HR5.out]; (try rw [HP0.out]); (try rw [HP1.out]); (try rw [HP2.out]); (try rw [HP3.out]); (try rw [HP4.out]); (try rw [HP5.out]); (try rw [HP6.out]); (try rw [HP7.out]); (try rw [HP8.out]); (try rw [HP9.out]); (try rw [HP10.out]); (try rw [HP11.out]); (try rw [HP12.out]); (try rw [HP13.out]); (try rw [HP14.out]); (try rw [HP15.out]); (try rw [HP16.out]); (try rw [HP17.out]); (try rw [HP18.out]); (try rw [HP19.out]); (try rw [HP20.out]); all_goals first | rfl | simp
  have e6 : false = R6 := by rw [← HR6.out]; (try rw [HP0.out]); (try rw [HP1.out]); (try rw [HP2.out]); (try rw [HP3.out]); (try rw [HP4.out]); (try rw [HP5.out]); (try rw [HP6.out]); (try rw [HP7.out]); (try rw [HP8.out]); (try rw [HP9.out]); (try rw [HP10.out]); (try rw [HP11.out]); (try rw [HP12.out]); (try rw [HP13.out]); (try rw [HP14.out]); (try rw [HP15.out]); (try rw [HP16.out]); (try rw [HP17.out]); (try rw [HP18.out]); (try rw [HP19.out]); (try rw [HP20.out]); all_goals first | rfl | simp
  subst e0
  subst e1
  subst e2
  subst e3
  subst e4
  subst e5
  subst e6
  go_wp2_with (first | ((with_reducible refine stRow (w.heap.size + 1 + 1) #[.int .u64 0, .int .u64 0, .int .u64 0, .int .u64 0, .int .u64 0, .int .u64 0, .int .u64 0, .int .u64 0, .int .u64 0, .int .u64 0, .int .u64 0, .int .u64 0, .int .u64 0, .int .u64 0, .int .u64 0, .int .u64 0, .bool false, .bool false] _ _ k3 ?_ ?_ ?_ ?_ ?_ ?_); rfl; rfl; (as_aux_lemma => kernel_rfl); rfl; (as_aux_lemma => kernel_rfl); simp only [Act.put]))
  first | refine post_world ?_
  intro V11 hV11
  have D5 := Lib.hid k3.lt
  have D6 := Lib.hid k4.lt
  have D7 := Lib.hid hb0.size
  clear k4
  have nk3 : Blk V11 (w.heap.size + 1 + 1) #[.int .u64 0, .int .u64 0, .int .u64 0, .int .u64 0, .int .u64 0, .int .u64 0, .int .u64 0, .int .u64 0, .int .u64 0, .int .u64 0, .int .u64 0, .int .u64 0, .int .u64 0, .int .u64 0, .int .u64 0, .int .u64 0, .bool false, .bool false] 54 := by rw [hV11]; exact blk_row k3 _
  have nhb0 : Below w.heap.size w V11 := by rw [hV11]; exact blw_row hb0 (by omega) _
  clear k3
  clear hb0
  clear hV11
  have k3 := nk3
  clear nk3
  have hb0 := nhb0
  clear nhb0
  refine ⟨rfl, _, results_row_tmp rfl _ _ _ _ _ _ _ rfl k3 rfl rfl (by as_aux_lemma => kernel_rfl), ?_, hb0⟩
  first | rfl | kernel_rfl
end Go.Proofs.Ytlcbomjdbdgbmaa

namespace Go.Proofs.Ytlcbomjdbdgbmaa
open Go.RowKit

set_option maxRecDepth 100000 in
set_option maxHeartbeats 4000000 in

theorem pxCut_5 (ax : Int) (ay : Int) (bx : Int) (b_y : Int) (cx : Int) (cy : Int) (n : Int) (pfn : Int) (pfd : Int) (ptn : Int) (ptd : Int) (pfo : Bool) (pto : Bool) (qfn : Int) (qfd : Int) (qtn : Int) (qtd : Int) (qfo : Bool) (qto : Bool) (R0 : Int) (R1 : Int) (R2 : Int) (R3 : Int) (R4 : Bool) (R5 : Bool) (R6 : Bool) (hR0 : (fun (_ : Int) (_ : Int) (_ : Int) (_ : Int) (_ : Int) (_ : Int) (_ : Int) => 0) ax ay bx b_y cx cy n = R0) (hR1 : (fun (_ : Int) (_ : Int) (_ : Int) (_ : Int) (_ : Int) (_ : Int) (_ : Int) => 0) ax ay bx b_y cx cy n = R1) (hR2 : (fun (_ : Int) (_ : Int) (_ : Int) (_ : Int) (_ : Int) (_ : Int) (_ : Int) => 0) ax ay bx b_y cx cy n = R2) (hR3 : (fun (_ : Int) (_ : Int) (_ : Int) (_ : Int) (_ : Int) (_ : Int) (_ : Int) => 0) ax ay bx b_y cx cy n = R3) (hR4 : (fun (_ : Int) (_ : Int) (_ : Int) (_ : Int) (_ : Int) (_ : Int) (_ : Int) => false) ax ay bx b_y cx cy n = R4) (hR5 : (fun (_ : Int) (_ : Int) (_ : Int) (_ : Int) (_ : Int) (_ : Int) (_ : Int) => false) ax ay bx b_y cx cy n = R5) (hR6 : (fun (_ : Int) (_ : Int) (_ : Int) (_ : Int) (_ : Int) (_ : Int) (_ : Int) => false) ax ay bx b_y cx cy n = R6) (hP0 : pxS n = true) (hP1 : sgR ax ay bx b_y = true) (hP2 : rp cx cy = true) (hP3 : rtOn 0 = 0) (hP4 : rtOd 0 = 1) (hP5 : rtOn 1 = 1) (hP6 : rtOd 1 = 1) (hP7 : bak 0 1 1 1 false false ax (wrap64 (bx - ax)) (wrap64 ((wrap64 ((wrap64 (2 * cx)) * n)) - n)) (wrap64 ((wrap64 ((wrap64 (2 * cx)) * n)) + n)) = true) (hP8 : bafn 0 1 1 1 false false ax (wrap64 (bx - ax)) (wrap64 ((wrap64 ((wrap64 (2 * cx)) * n)) - n)) (wrap64 ((wrap64 ((wrap64 (2 * cx)) * n)) + n)) = pfn) (hP9 : bafd 0 1 1 1 false false ax (wrap64 (bx - ax)) (wrap64 ((wrap64 ((wrap64 (2 * cx)) * n)) - n)) (wrap64 ((wrap64 ((wrap64 (2 * cx)) * n)) + n)) = pfd) (hP10 : batn 0 1 1 1 false false ax (wrap64 (bx - ax)) (wrap64 ((wrap64 ((wrap64 (2 * cx)) * n)) - n)) (wrap64 ((wrap64 ((wrap64 (2 * cx)) * n)) + n)) = ptn) (hP11 : batd 0 1 1 1 false false ax (wrap64 (bx - ax)) (wrap64 ((wrap64 ((wrap64 (2 * cx)) * n)) - n)) (wrap64 ((wrap64 ((wrap64 (2 * cx)) * n)) + n)) = ptd) (hP12 : bafo 0 1 1 1 false false ax (wrap64 (bx - ax)) (wrap64 ((wrap64 ((wrap64 (2 * cx)) * n)) - n)) (wrap64 ((wrap64 ((wrap64 (2 * cx)) * n)) + n)) = pfo) (hP13 : bato 0 1 1 1 false false ax (wrap64 (bx - ax)) (wrap64 ((wrap64 ((wrap64 (2 * cx)) * n)) - n)) (wrap64 ((wrap64 ((wrap64 (2 * cx)) * n)) + n)) = pto) (hP14 : bak pfn pfd ptn ptd pfo pto ay (wrap64 (b_y - ay)) (wrap64 ((wrap64 ((wrap64 (2 * cy)) * n)) - n)) (wrap64 ((wrap64 ((wrap64 (2 * cy)) * n)) + n)) = true) (hP15 : bafn pfn pfd ptn ptd pfo pto ay (wrap64 (b_y - ay)) (wrap64 ((wrap64 ((wrap64 (2 * cy)) * n)) - n)) (wrap64 ((wrap64 ((wrap64 (2 * cy)) * n)) + n)) = qfn) (hP16 : bafd pfn pfd ptn ptd pfo pto ay (wrap64 (b_y - ay)) (wrap64 ((wrap64 ((wrap64 (2 * cy)) * n)) - n)) (wrap64 ((wrap64 ((wrap64 (2 * cy)) * n)) + n)) = qfd) (hP17 : batn pfn pfd ptn ptd pfo pto ay (wrap64 (b_y - ay)) (wrap64 ((wrap64 ((wrap64 (2 * cy)) * n)) - n)) (wrap64 ((wrap64 ((wrap64 (2 * cy)) * n)) + n)) = qtn) (hP18 : batd pfn pfd ptn ptd pfo pto ay (wrap64 (b_y - ay)) (wrap64 ((wrap64 ((wrap64 (2 * cy)) * n)) - n)) (wrap64 ((wrap64 ((wrap64 (2 * cy)) * n)) + n)) = qtd) (hP19 : bafo pfn pfd ptn ptd pfo pto ay (wrap64 (b_y - ay)) (wrap64 ((wrap64 ((wrap64 (2 * cy)) * n)) - n)) (wrap64 ((wrap64 ((wrap64 (2 * cy)) * n)) + n)) = qfo) (hP20 : bato pfn pfd ptn ptd pfo pto ay (wrap64 (b_y - ay)) (wrap64 ((wrap64 ((wrap64 (2 * cy)) * n)) - n)) (wrap64 ((wrap64 ((wrap64 (2 * cy)) * n)) + n)) = qto) (hP21 : smk_ qfn qfd qtn qtd qfo qto = false) (hP22 : smfn qfn qfd qtn qtd qfo qto = qfn) (hP23 : smfd qfn qfd qtn qtd qfo qto = qfd) (hP24 : smtn qfn qfd qtn qtd qfo qto = qtn) (hP25 : smtd qfn qfd qtn qtd qfo qto = qtd) (hP26 : smfo qfn qfd qtn qtd qfo qto = qfo) (hP27 : smto qfn qfd qtn qtd qfo qto = qto) (_ipfn : InI pfn) (_ipfd : InI pfd) (_iptn : InI ptn) (_iptd : InI ptd) (_iqfn : InI qfn) (_iqfd : InI qfd) (_iqtn : InI qtn) (_iqtd : InI qtd) (_iax : In64 ax) (_iay : In64 ay) (_ibx : In64 bx) (_ib_y : In64 b_y) (_icx : In64 cx) (_icy : In64 cy) (_in : In64 n)  (w : World)  :
    Calls Try.prog 30 #[.agg #[.int .i64 ax, .int .i64 ay, .int .i64 bx, .int .i64 b_y], .agg #[.int .i64 cx, .int .i64 cy], .int .i64 n] w fun e w' => e = .returned (.tuple #[.agg #[.int .u64 (wd0 R0), .int .u64 (wd1 R0), .int .u64 (wd2 R0), .int .u64 (wd3 R0), .int .u64 (wd0 R1), .int .u64 (wd1 R1), .int .u64 (wd2 R1), .int .u64 (wd3 R1), .int .u64 (wd0 R2), .int .u64 (wd1 R2), .int .u64 (wd2 R2), .int .u64 (wd3 R2), .int .u64 (wd0 R3), .int .u64 (wd1 R3), .int .u64 (wd2 R3), .int .u64 (wd3 R3), .bool R4, .bool R5], .bool R6]) ∧ Below w.heap.size w w' := by

  have HP0 := Lib.hid hP0
  clear hP0
  have HP1 := Lib.hid hP1
  clear hP1
  have HP2 := Lib.hid hP2
  clear hP2
  have HP3 := Lib.hid hP3
  clear hP3
  have HP4 := Lib.hid hP4
  clear hP4
  have HP5 := Lib.hid hP5
  clear hP5
  have HP6 := Lib.hid hP6
  clear hP6
  have HP7 := Lib.hid hP7
  clear hP7
  have HP8 := Lib.hid hP8
  clear hP8
  have HP9 := Lib.hid hP9
  clear hP9
  have HP10 := Lib.hid hP10
  clear hP10
  have HP11 := Lib.hid hP11
  clear hP11
  have HP12 := Lib.hid hP12
  clear hP12
  have HP13 := Lib.hid hP13
  clear hP13
  have HP14 := Lib.hid hP14
  clear hP14
  have HP15 := Lib.hid hP15
  clear hP15
  have HP16 := Lib.hid hP16
  clear hP16
  have HP17 := Lib.hid hP17
  clear hP17
  have HP18 := Lib.hid hP18
  clear hP18
  have HP19 := Lib.hid hP19
  clear hP19
  have HP20 := Lib.hid hP20
  clear hP20
  have HP21 := Lib.hid hP21
  clear hP21
  have HP22 := Lib.hid hP22
  clear hP22
  have HP23 := Lib.hid hP23
  clear hP23
  have HP24 := Lib.hid hP24
  clear hP24
  have HP25 := Lib.hid hP25
  clear hP25
  have HP26 := Lib.hid hP26
  clear hP26
  have HP27 := Lib.hid hP27
  clear hP27
  have HR0 := Lib.hid hR0
  clear hR0
  have HR1 := Lib.hid hR1
  clear hR1
  have HR2 := Lib.hid hR2
  clear hR2
  have HR3 := Lib.hid hR3
  clear hR3
  have HR4 := Lib.hid hR4
  clear hR4
  have HR5 := Lib.hid hR5
  clear hR5
  have HR6 := Lib.hid hR6
  clear hR6
  go_enter Try.func30, Try.ntmps30
  go_wp2_with fail
  first | refine calls_w ?_ | refine name_world ?_ | refine list_world ?_ | refine post_world ?_
  intro V1 hV1
  have hn : Below w.heap.size w V1 := by rw [hV1]; exact below_a3 _ _ _ _
  have nhb0 := hn
  have k1 : Blk V1 w.heap.size #[.int .i64 ax, .int .i64 ay, .int .i64 bx, .int .i64 b_y] 50 := by rw [hV1]; exact (((Blk.new _ _ _).alloc _).alloc _)
  have k2 : Blk V1 (w.heap.size + 1) #[.int .i64 cx, .int .i64 cy] 24 := by rw [hV1]; exact ((Blk.new1 _ _ _ _).alloc _)
  have k3 : Blk V1 (w.heap.size + 1 + 1) #[.int .u64 0, .int .u64 0, .int .u64 0, .int .u64 0, .int .u64 0, .int .u64 0, .int .u64 0, .int .u64 0, .int .u64 0, .int .u64 0, .int .u64 0, .int .u64 0, .int .u64 0, .int .u64 0, .int .u64 0, .int .u64 0, .bool false, .bool false] 54 := by rw [hV1]; exact (Blk.new2 _ _ _ _ _)
  clear hV1
  have hb0 := nhb0
  clear nhb0
  refine (pxSize_is n true HP0.out _in  _).mono ?_
  rintro e U2 ⟨rfl, hn⟩
  replace k1 := k1.of hn
  replace k2 := k2.of hn
  replace k3 := k3.of hn
  replace hb0 := hb0.trans (hn.mono hb0.size)
  clear hn
  have c1_0 : U2.cell? ⟨w.heap.size, 0, none⟩ = some (.int .i64 ax) := k1.cell 0
  have c1_1 : U2.cell? ⟨w.heap.size, 1, none⟩ = some (.int .i64 ay) := k1.cell 1
  have c1_2 : U2.cell? ⟨w.heap.size, 2, none⟩ = some (.int .i64 bx) := k1.cell 2
  have c1_3 : U2.cell? ⟨w.heap.size, 3, none⟩ = some (.int .i64 b_y) := k1.cell 3
  have l1 := k1.lt
  go_wp2_with fail
  clear c1_0 c1_1 c1_2 c1_3 l1
  refine (SegRight_is ax ay bx b_y true HP1.out _iax _iay _ibx _ib_y  _).mono ?_
  rintro e U3 ⟨rfl, hn⟩
  replace k1 := k1.of hn
  replace k2 := k2.of hn
  replace k3 := k3.of hn
  replace hb0 := hb0.trans (hn.mono hb0.size)
  clear hn
  have c2_0 : U3.cell? ⟨(w.heap.size + 1), 0, none⟩ = some (.int .i64 cx) := k2.cell 0
  have c2_1 : U3.cell? ⟨(w.heap.size + 1), 1, none⟩ = some (.int .i64 cy) := k2.cell 1
  have l2 := k2.lt
  go_wp2_with fail
  clear c2_0 c2_1 l2
  refine (PtRight_v cx cy true HP2.out _).mono ?_
  rintro e U4 ⟨rfl, hn⟩
  replace k1 := k1.of hn
  replace k2 := k2.of hn
  replace k3 := k3.of hn
  replace hb0 := hb0.trans (hn.mono hb0.size)
  clear hn
  go_wp2_with fail
  refine (rtOf_is 0 0 1 HP3.out HP4.out (by unfold In64; omega)  _).mono ?_
  rintro e U5 ⟨rfl, hn⟩
  replace k1 := k1.of hn
  replace k2 := k2.of hn
  replace k3 := k3.of hn
  replace hb0 := hb0.trans (hn.mono hb0.size)
  clear hn
  go_wp2_with fail
  refine (rtOf_is 1 1 1 HP5.out HP6.out (by unfold In64; omega)  _).mono ?_
  rintro e U6 ⟨rfl, hn⟩
  replace k1 := k1.of hn
  replace k2 := k2.of hn
  replace k3 := k3.of hn
  replace hb0 := hb0.trans (hn.mono hb0.size)
  clear hn
  go_wp2_with (first | ((with_reducible refine stRow (U6.heap.size) #[.int .u64 (wd0 0), .int .u64 (wd1 0), .int .u64 (wd2 0), .int .u64 (wd3 0), .int .u64 (wd0 1), .int .u64 (wd1 1), .int .u64 (wd2 1), .int .u64 (wd3 1), .int .u64 (wd0 1), .int .u64 (wd1 1), .int .u64 (wd2 1), .int .u64 (wd3 1), .int .u64 (wd0 1), .int .u64 (wd1 1), .int .u64 (wd2 1), .int .u64 (wd3 1), .bool false, .bool false] _ _ (Blk.new _ _ _) ?_ ?_ ?_ ?_ ?_ ?_); rfl; rfl; (as_aux_lemma => kernel_rfl); rfl; (as_aux_lemma => kernel_rfl); simp only [Act.put]))
  first | refine calls_w ?_ | refine name_world ?_ | refine list_world ?_ | refine post_world ?_
  intro V7 hV7
  rw [World.setRow_alloc_new] at hV7
  have D1 := Lib.hid k1.lt
  have D2 := Lib.hid k2.lt
  have D3 := Lib.hid k3.lt
  have D4 := Lib.hid hb0.size
  have hn : Below U6.heap.size U6 V7 := by rw [hV7]; exact below_a1 _ _
  have nk1 := k1.of hn
  have nk2 := k2.of hn
  have nk3 := k3.of hn
  have nhb0 := hb0.trans (hn.mono hb0.size)
  clear hn
  have k4 : Blk V7 U6.heap.size #[.int .u64 (wd0 0), .int .u64 (wd1 0), .int .u64 (wd2 0), .int .u64 (wd3 0), .int .u64 (wd0 1), .int .u64 (wd1 1), .int .u64 (wd2 1), .int .u64 (wd3 1), .int .u64 (wd0 1), .int .u64 (wd1 1), .int .u64 (wd2 1), .int .u64 (wd3 1), .int .u64 (wd0 1), .int .u64 (wd1 1), .int .u64 (wd2 1), .int .u64 (wd3 1), .bool false, .bool false] 54 := by rw [hV7]; exact (Blk.new _ _ _)
  clear k1 k2 k3
  clear hb0
  clear hV7
  have k1 := nk1
  clear nk1
  have k2 := nk2
  clear nk2
  have k3 := nk3
  clear nk3
  have hb0 := nhb0
  clear nhb0
  have c2_0 : V7.cell? ⟨(w.heap.size + 1), 0, none⟩ = some (.int .i64 cx) := k2.cell 0
  have c2_1 : V7.cell? ⟨(w.heap.size + 1), 1, none⟩ = some (.int .i64 cy) := k2.cell 1
  have l2 := k2.lt
  have Kk1 := Lib.hid k1
  clear k1
  have Kk2 := Lib.hid k2
  clear k2
  have Kk3 := Lib.hid k3
  clear k3
  have Kk4 := Lib.hid k4
  clear k4
  refine wp_region_up V7.heap.size 11 [(true, 0), (true, 1), (true, 2), (true, 3), (true, 4), (true, 5), (true, 6), (true, 7), (true, 8), (true, 9), (true, 10)] (by kernel_rfl) (by kernel_rfl) (fun _ _ d _ _ h => by cases d <;> exact h) ?_
  have hb : Below V7.heap.size V7 V7.drew := (Below.refl _ _).drew
  iterate 11
    refine wpS_takeL rfl rfl ?_
    go_big_quiet_step (rfl)
    refine wpQuiet_nil ?_
  refine wpS_nil ?_
  simp only [List.drop_succ_cons, List.drop_zero]
  first | refine calls_w ?_ | refine name_world ?_ | refine list_world ?_ | refine post_world ?_
  intro U8 hU8
  first | (subst hU8; have u_ := U8; clear u_) | (rw [← hU8] at hb; clear hU8)
  clear c2_0 c2_1 l2
  have k1 := Kk1.out.of hb
  clear Kk1
  have k2 := Kk2.out.of hb
  clear Kk2
  have k3 := Kk3.out.of hb
  clear Kk3
  have k4 := Kk4.out.of hb
  clear Kk4
  replace hb0 := hb0.trans (hb.mono hb0.size)
  clear hb
  have c1_0 : U8.cell? ⟨w.heap.size, 0, none⟩ = some (.int .i64 ax) := k1.cell 0
  have c1_2 : U8.cell? ⟨w.heap.size, 2, none⟩ = some (.int .i64 bx) := k1.cell 2
  have l1 := k1.lt
  go_wp2_with fail
  clear c1_0 c1_2 l1
  refine (pxba_is 0 1 1 1 false false ax (wrap64 (bx - ax)) (wrap64 ((wrap64 ((wrap64 (2 * cx)) * n)) - n)) (wrap64 ((wrap64 ((wrap64 (2 * cx)) * n)) + n)) true pfn pfd ptn ptd pfo pto HP7.out HP8.out HP9.out HP10.out HP11.out HP12.out HP13.out (by unfold InI b255; omega) (by unfold InI b255; omega) (by unfold InI b255; omega) (by unfold InI b255; omega) _iax (wrap64_in _) (wrap64_in _) (wrap64_in _) (U6.heap.size) _ k4).mono ?_
  rintro e U9 ⟨rfl, hk_, hn⟩
  clear k2
  replace k1 := k1.below hn (by have := D1.out; omega)
  replace k3 := k3.below hn (by have := D3.out; omega)
  replace k4 := hk_
  clear hk_
  replace hb0 := hb0.trans (hn.mono (by have := D4.out; omega))
  clear hn
  have c1_1 : U9.cell? ⟨w.heap.size, 1, none⟩ = some (.int .i64 ay) := k1.cell 1
  have c1_3 : U9.cell? ⟨w.heap.size, 3, none⟩ = some (.int .i64 b_y) := k1.cell 3
  have l1 := k1.lt
  go_wp2_with fail
  clear c1_1 c1_3 l1
  refine (pxba_is pfn pfd ptn ptd pfo pto ay (wrap64 (b_y - ay)) (wrap64 ((wrap64 ((wrap64 (2 * cy)) * n)) - n)) (wrap64 ((wrap64 ((wrap64 (2 * cy)) * n)) + n)) true qfn qfd qtn qtd qfo qto HP14.out HP15.out HP16.out HP17.out HP18.out HP19.out HP20.out _ipfn _ipfd _iptn _iptd _iay (wrap64_in _) (wrap64_in _) (wrap64_in _) (U6.heap.size) _ k4).mono ?_
  rintro e U10 ⟨rfl, hk_, hn⟩
  clear k1
  replace k3 := k3.below hn (by have := D3.out; omega)
  replace k4 := hk_
  clear hk_
  replace hb0 := hb0.trans (hn.mono (by have := D4.out; omega))
  clear hn
  go_wp2_with fail
  refine (pxsm_is qfn qfd qtn qtd qfo qto false qfn qfd qtn qtd qfo qto HP21.out HP22.out HP23.out HP24.out HP25.out HP26.out HP27.out _iqfn _iqfd _iqtn _iqtd (U6.heap.size) _ k4).mono ?_
  rintro e U11 ⟨rfl, hk_, hn⟩
  replace k3 := k3.below hn (by have := D3.out; omega)
  replace k4 := hk_
  clear hk_
  replace hb0 := hb0.trans (hn.mono (by have := D4.out; omega))
  clear hn
  have e0 : 0 = R0 := by rw [← HR0.out]; (try rw [HP0.out]); (try rw [HP1.out]); (try rw [HP2.out]); (try rw [HP3.out]); (try rw [HP4.out]); (try rw [HP5.out]); (try rw [HP6.out]); (try rw [HP7.out]); (try rw [HP8.out]); (try rw [HP9.out]); (try rw [HP10.out]); (try rw [HP11.out]); (try rw [HP12.out]); (try rw [HP13.out]); (try rw [HP14.out]); (try rw [HP15.out]); (try rw [HP16.out]); (try rw [HP17.out]); (try rw [HP18.out]); (try rw [HP19.out]); (try rw [HP20.out]); (try rw [HP21.out]); (try rw [HP22.out]); (try rw [HP23.out]); (try rw [HP24.out]); (try rw [HP25.out]); (try rw [HP26.out]); (try rw [HP27.out]); all_goals first | rfl | simp
  have e1 : 0 = R1 := by rw [← HR1.out]; (try rw [HP0.out]); (try rw [HP1.out]); (try rw [HP2.out]); (try rw [HP3.out]); (try rw [HP4.out]); (try rw [HP5.out]); (try rw [HP6.out]); (try rw [HP7.out]); (try rw [HP8.out]); (try rw [HP9.out]); (try rw [HP10.out]); (try rw [HP11.out]); (try rw [HP12.out]); (try rw [HP13.out]); (try rw [HP14.out]); (try rw [HP15.out]); (try rw [HP16.out]); (try rw [HP17.out]); (try rw [HP18.out]); (try rw [HP19.out]); (try rw [HP20.out]); (try rw [HP21.out]); (try rw [HP22.out]); (try rw [HP23.out]); (try rw [HP24.out]); (try rw [HP25.out]); (try rw [HP26.out]); (try rw [HP27.out]); all_goals first | rfl | simp
  have e2 : 0 = R2 := by rw [← HR2.out]; (try rw [HP0.out]); (try rw [HP1.out]); (try rw [HP2.out]); (try rw [HP3.out]); (try rw [HP4.out]); (try rw [HP5.out]); (try rw [HP6.out]); (try rw [HP7.out]); (try rw [HP8.out]); (try rw [HP9.out]); (try rw [HP10.out]); (try rw [HP11.out]); (try rw [HP12.out]); (try rw [HP13.out]); (try rw [HP14.out]); (try rw [HP15.out]); (try rw [HP16.out]); (try rw [HP17.out]); (try rw [HP18.out]); (try rw [HP19.out]); (try rw [HP20.out]); (try rw [HP21.out]); (try rw [HP22.out]); (try rw [HP23.out]); (try rw [HP24.out]); (try rw [HP25.out]); (try rw [HP26.out]); (try rw [HP27.out]); all_goals first | rfl | simp
  have e3 : 0 = R3 := by rw [← HR3.out]; (try rw [HP0.out]); (try rw [HP1.out]); (try rw [HP2.out]); (try rw [HP3.out]); (try rw [HP4.out]); (try rw [HP5.out]); (try rw [HP6.out]); (try rw [HP7.out]); (try rw [HP8.out]); (try rw [HP9.out]); (try rw [HP10.out]); (try rw [HP11.out]); (try rw [HP12.out]); (try rw [HP13.out]); (try rw [HP14.out]); (try rw [HP15.out]); (try rw [HP16.out]); (try rw [HP17.out]); (try rw [HP18.out]); (try rw [HP19.out]); (try rw [HP20.out]); (try rw [HP21.out]); (try rw [HP22.out]); (try rw [HP23.out]); (try rw [HP24.out]); (try rw [HP25.out]); (try rw [HP26.out]); (try rw [HP27.out]); all_goals first | rfl | simp
  have e4 : false = R4 := by rw [← HR4.out]; (try rw [HP0.out]); (try rw [HP1.out]); (try rw [HP2.out]); (try rw [HP3.out]); (try rw [HP4.out]); (try rw [HP5.out]); (try rw [HP6.out]); (try rw [HP7.out]); (try rw [HP8.out]); (try rw [HP9.out]); (try rw [HP10.out]); (try rw [HP11.out]); (try rw [HP12.out]); (try rw [HP13.out]); (try rw [HP14.out]); (try rw [HP15.out]); (try rw [HP16.out]); (try rw [HP17.out]); (try rw [HP18.out]); (try rw [HP19.out]); (try rw [HP20.out]); (try rw [HP21.out]); (try rw [HP22.out]); (try rw [HP23.out]); (try rw [HP24.out]); (try rw [HP25.out]); (try rw [HP26.out]); (try rw [HP27.out]); all_goals first | rfl | simp
  have e5 : false = R5 := by rw [← HR5.out]; (try rw [HP0.out]); (try rw [HP1.out]); (try rw [HP2.out]); (try rw [HP3.out]); (try rw [HP4.out]); (try rw [HP5.out]); (try rw [HP6.out]); (try rw [HP7.out]); (try rw [HP8.out]); (try rw [HP9.out]); (try rw [HP10.out]); (try rw [HP11.out]); (try rw [HP12.out]); (try rw [HP13.out]); (try rw [HP14.out]); (try rw [HP15.out]); (try rw [HP16.out]); (try rw [HP17.out]); (try rw [HP18.out]); (try rw [HP19.out]); (try rw [HP20.out]); (try rw [HP21.out]); (try rw [HP22.out]); (try rw [HP23.out]); (try rw [HP24.out]); (try rw [HP25.out]); (try rw [HP26.out]); (try rw [HP27.out]); all_goals first | rfl | simp
  have e6 : false = R6 := by rw [← HR6.out]; (try rw [HP0.out]); (try rw [HP1.out]); (try rw [HP2.out]); (try rw [HP3.out]); (try rw [HP4.out]); (try rw [HP5.out]); (try rw [HP6.out]); (try rw [HP7.out]); (try rw [HP8.out]); (try rw [HP9.out]); (try rw [HP10.out]); (try rw [HP11.out]); (try rw [HP12.out]); (try rw [HP13.out]); (try rw [HP14.out]); (try rw [HP15.out]); (try rw [HP16.out]); (try rw [HP17.out]); (try rw [HP18.out]); (try rw [HP19.out]); (try rw [HP20.out]); (try rw [HP21.out]); (try rw [HP22.out]); (try rw [HP23.out]); (try rw [HP24.out]); (try rw [HP25.out]); (try rw [HP26.out]); (try rw [HP27.out]); all_goals first | rfl | simp
  subst e0
  subst e1
  subst e2
  subst e3
  subst e4
  subst e5
  subst e6
  go_wp2_with (first | ((with_reducible refine stRow (w.heap.size + 1 + 1) #[.int .u64 0, .int .u64 0, .int .u64 0, .int .u64 0, .int .u64 0, .int .u64 0, .int .u64 0, .int .u64 0, .int .u64 0, .int .u64 0, .int .u64 0, .int .u64 0, .int .u64 0, .int .u64 0, .int .u64 0, .int .u64 0, .bool false, .bool false] _ _ k3 ?_ ?_ ?_ ?_ ?_ ?_); rfl; rfl; (as_aux_lemma => kernel_rfl); rfl; (as_aux_lemma => kernel_rfl); simp only [Act.put]))
  first | refine post_world ?_
  intro V12 hV12
  have D5 := Lib.hid k3.lt
  have D6 := Lib.hid k4.lt
  have D7 := Lib.hid hb0.size
  clear k4
  have nk3 : Blk V12 (w.heap.size + 1 + 1) #[.int .u64 0, .int .u64 0, .int .u64 0, .int .u64 0, .int .u64 0, .int .u64 0, .int .u64 0, .int .u64 0, .int .u64 0, .int .u64 0, .int .u64 0, .int .u64 0, .int .u64 0, .int .u64 0, .int .u64 0, .int .u64 0, .bool false, .bool false] 54 := by rw [hV12]; exact blk_row k3 _
  have nhb0 : Below w.heap.size w V12 := by rw [hV12]; exact blw_row hb0 (by omega) _
  clear k3
  clear hb0
  clear hV12
  have k3 := nk3
  clear nk3
  have hb0 := nhb0
  clear nhb0
  refine ⟨rfl, _, results_row_tmp rfl _ _ _ _ _ _ _ rfl k3 rfl rfl (by as_aux_lemma => kernel_rfl), ?_, hb0⟩
  first | rfl | kernel_rfl

set_option maxRecDepth 100000 in
set_option maxHeartbeats 4000000 in

theorem pxCut_6 (ax : Int) (ay : Int) (bx : Int) (b_y : Int) (cx : Int) (cy : Int) (n : Int) (pfn : Int) (pfd : Int) (ptn : Int) (ptd : Int) (pfo : Bool) (pto : Bool) (qfn : Int) (qfd : Int) (qtn : Int) (qtd : Int) (qfo : Bool) (qto : Bool) (R0 : Int) (R1 : Int) (R2 : Int) (R3 : Int) (R4 : Bool) (R5 : Bool) (R6 : Bool) (hR0 : (fun (_ : Int) (_ : Int) (_ : Int) (_ : Int) (_ : Int) (_ : Int) (_ : Int) => qfn) ax ay bx b_y cx cy n = R0) (hR1 : (fun (_ : Int) (_ : Int) (_ : Int) (_ : Int) (_ : Int) (_ : Int) (_ : Int) => qfd) ax ay bx b_y cx cy n = R1) (hR2 : (fun (_ : Int) (_ : Int) (_ : Int) (_ : Int) (_ : Int) (_ : Int) (_ : Int) => qtn) ax ay bx b_y cx cy n = R2) (hR3 : (fun (_ : Int) (_ : Int) (_ : Int) (_ : Int) (_ : Int) (_ : Int) (_ : Int) => qtd) ax ay bx b_y cx cy n = R3) (hR4 : (fun (_ : Int) (_ : Int) (_ : Int) (_ : Int) (_ : Int) (_ : Int) (_ : Int) => qfo) ax ay bx b_y cx cy n = R4) (hR5 : (fun (_ : Int) (_ : Int) (_ : Int) (_ : Int) (_ : Int) (_ : Int) (_ : Int) => qto) ax ay bx b_y cx cy n = R5) (hR6 : (fun (_ : Int) (_ : Int) (_ : Int) (_ : Int) (_ : Int) (_ : Int) (_ : Int) => true) ax ay bx b_y cx cy n = R6) (hP0 : pxS n = true) (hP1 : sgR ax ay bx b_y = true) (hP2 : rp cx cy = true) (hP3 : rtOn 0 = 0) (hP4 : rtOd 0 = 1) (hP5 : rtOn 1 = 1) (hP6 : rtOd 1 = 1) (hP7 : bak 0 1 1 1 false false ax (wrap64 (bx - ax)) (wrap64 ((wrap64 ((wrap64 (2 * cx)) * n)) - n)) (wrap64 ((wrap64 ((wrap64 (2 * cx)) * n)) + n)) = true) (hP8 : bafn 0 1 1 1 false false ax (wrap64 (bx - ax)) (wrap64 ((wrap64 ((wrap64 (2 * cx)) * n)) - n)) (wrap64 ((wrap64 ((wrap64 (2 * cx)) * n)) + n)) = pfn) (hP9 : bafd 0 1 1 1 false false ax (wrap64 (bx - ax)) (wrap64 ((wrap64 ((wrap64 (2 * cx)) * n)) - n)) (wrap64 ((wrap64 ((wrap64 (2 * cx)) * n)) + n)) = pfd) (hP10 : batn 0 1 1 1 false false ax (wrap64 (bx - ax)) (wrap64 ((wrap64 ((wrap64 (2 * cx)) * n)) - n)) (wrap64 ((wrap64 ((wrap64 (2 * cx)) * n)) + n)) = ptn) (hP11 : batd 0 1 1 1 false false ax (wrap64 (bx - ax)) (wrap64 ((wrap64 ((wrap64 (2 * cx)) * n)) - n)) (wrap64 ((wrap64 ((wrap64 (2 * cx)) * n)) + n)) = ptd) (hP12 : bafo 0 1 1 1 false false ax (wrap64 (bx - ax)) (wrap64 ((wrap64 ((wrap64 (2 * cx)) * n)) - n)) (wrap64 ((wrap64 ((wrap64 (2 * cx)) * n)) + n)) = pfo) (hP13 : bato 0 1 1 1 false false ax (wrap64 (bx - ax)) (wrap64 ((wrap64 ((wrap64 (2 * cx)) * n)) - n)) (wrap64 ((wrap64 ((wrap64 (2 * cx)) * n)) + n)) = pto) (hP14 : bak pfn pfd ptn ptd pfo pto ay (wrap64 (b_y - ay)) (wrap64 ((wrap64 ((wrap64 (2 * cy)) * n)) - n)) (wrap64 ((wrap64 ((wrap64 (2 * cy)) * n)) + n)) = true) (hP15 : bafn pfn pfd ptn ptd pfo pto ay (wrap64 (b_y - ay)) (wrap64 ((wrap64 ((wrap64 (2 * cy)) * n)) - n)) (wrap64 ((wrap64 ((wrap64 (2 * cy)) * n)) + n)) = qfn) (hP16 : bafd pfn pfd ptn ptd pfo pto ay (wrap64 (b_y - ay)) (wrap64 ((wrap64 ((wrap64 (2 * cy)) * n)) - n)) (wrap64 ((wrap64 ((wrap64 (2 * cy)) * n)) + n)) = qfd) (hP17 : batn pfn pfd ptn ptd pfo pto ay (wrap64 (b_y - ay)) (wrap64 ((wrap64 ((wrap64 (2 * cy)) * n)) - n)) (wrap64 ((wrap64 ((wrap64 (2 * cy)) * n)) + n)) = qtn) (hP18 : batd pfn pfd ptn ptd pfo pto ay (wrap64 (b_y - ay)) (wrap64 ((wrap64 ((wrap64 (2 * cy)) * n)) - n)) (wrap64 ((wrap64 ((wrap64 (2 * cy)) * n)) + n)) = qtd) (hP19 : bafo pfn pfd ptn ptd pfo pto ay (wrap64 (b_y - ay)) (wrap64 ((wrap64 ((wrap64 (2 * cy)) * n)) - n)) (wrap64 ((wrap64 ((wrap64 (2 * cy)) * n)) + n)) = qfo) (hP20 : bato pfn pfd ptn ptd pfo pto ay (wrap64 (b_y - ay)) (wrap64 ((wrap64 ((wrap64 (2 * cy)) * n)) - n)) (wrap64 ((wrap64 ((wrap64 (2 * cy)) * n)) + n)) = qto) (hP21 : smk_ qfn qfd qtn qtd qfo qto = true) (hP22 : smfn qfn qfd qtn qtd qfo qto = qfn) (hP23 : smfd qfn qfd qtn qtd qfo qto = qfd) (hP24 : smtn qfn qfd qtn qtd qfo qto = qtn) (hP25 : smtd qfn qfd qtn qtd qfo qto = qtd) (hP26 : smfo qfn qfd qtn qtd qfo qto = qfo) (hP27 : smto qfn qfd qtn qtd qfo qto = qto) (_ipfn : InI pfn) (_ipfd : InI pfd) (_iptn : InI ptn) (_iptd : InI ptd) (_iqfn : InI qfn) (_iqfd : InI qfd) (_iqtn : InI qtn) (_iqtd : InI qtd) (_iax : In64 ax) (_iay : In64 ay) (_ibx : In64 bx) (_ib_y : In64 b_y) (_icx : In64 cx) (_icy : In64 cy) (_in : In64 n)  (w : World)  :
    Calls Try.prog 30 #[.agg #[.int .i64 ax, .int .i64 ay, .int .i64 bx, .int .i64 b_y], .agg #[.int .i64 cx, .int .i64 cy], .int .i64 n] w fun e w' => e = .returned (.tuple #[.agg #[.int .u64 (wd0 R0), .int .u64 (wd1 R0), .int .u64 (wd2 R0), .int .u64 (wd3 R0), .int .u64 (wd0 R1), .int .u64 (wd1 R1), .int .u64 (wd2 R1), .int .u64 (wd3 R1), .int .u64 (wd0 R2), .int .u64 (wd1 R2), .int .u64 (wd2 R2), .int .u64 (wd3 R2), .int .u64 (wd0 R3), .int .u64 (wd1 R3), .int .u64 (wd2 R3), .int .u64 (wd3 R3), .bool R4, .bool R5], .bool R6]) ∧ Below w.heap.size w w' := by

  have HP0 := Lib.hid hP0
  clear hP0
  have HP1 := Lib.hid hP1
  clear hP1
  have HP2 := Lib.hid hP2
  clear hP2
  have HP3 := Lib.hid hP3
  clear hP3
  have HP4 := Lib.hid hP4
  clear hP4
  have HP5 := Lib.hid hP5
  clear hP5
  have HP6 := Lib.hid hP6
  clear hP6
  have HP7 := Lib.hid hP7
  clear hP7
  have HP8 := Lib.hid hP8
  clear hP8
  have HP9 := Lib.hid hP9
  clear hP9
  have HP10 := Lib.hid hP10
  clear hP10
  have HP11 := Lib.hid hP11
  clear hP11
  have HP12 := Lib.hid hP12
  clear hP12
  have HP13 := Lib.hid hP13
  clear hP13
  have HP14 := Lib.hid hP14
  clear hP14
  have HP15 := Lib.hid hP15
  clear hP15
  have HP16 := Lib.hid hP16
  clear hP16
  have HP17 := Lib.hid hP17
  clear hP17
  have HP18 := Lib.hid hP18
  clear hP18
  have HP19 := Lib.hid hP19
  clear hP19
  have HP20 := Lib.hid hP20
  clear hP20
  have HP21 := Lib.hid hP21
  clear hP21
  have HP22 := Lib.hid hP22
  clear hP22
  have HP23 := Lib.hid hP23
  clear hP23
  have HP24 := Lib.hid hP24
  clear hP24
  have HP25 := Lib.hid hP25
  clear hP25
  have HP26 := Lib.hid hP26
  clear hP26
  have HP27 := Lib.hid hP27
  clear hP27
  have HR0 := Lib.hid hR0
  clear hR0
  have HR1 := Lib.hid hR1
  clear hR1
  have HR2 := Lib.hid hR2
  clear hR2
  have HR3 := Lib.hid hR3
  clear hR3
  have HR4 := Lib.hid hR4
  clear hR4
  have HR5 := Lib.hid hR5
  clear hR5
  have HR6 := Lib.hid hR6
  clear hR6
  go_enter Try.func30, Try.ntmps30
  go_wp2_with fail
  first | refine calls_w ?_ | refine name_world ?_ | refine list_world ?_ | refine post_world ?_
  intro V1 hV1
  have hn : Below w.heap.size w V1 := by rw [hV1]; exact below_a3 _ _ _ _
  have nhb0 := hn
  have k1 : Blk V1 w.heap.size #[.int .i64 ax, .int .i64 ay, .int .i64 bx, .int .i64 b_y] 50 := by rw [hV1]; exact (((Blk.new _ _ _).alloc _).alloc _)
  have k2 : Blk V1 (w.heap.size + 1) #[.int .i64 cx, .int .i64 cy] 24 := by rw [hV1]; exact ((Blk.new1 _ _ _ _).alloc _)
  have k3 : Blk V1 (w.heap.size + 1 + 1) #[.int .u64 0, .int .u64 0, .int .u64 0, .int .u64 0, .int .u64 0, .int .u64 0, .int .u64 0, .int .u64 0, .int .u64 0, .int .u64 0, .int .u64 0, .int .u64 0, .int .u64 0, .int .u64 0, .int .u64 0, .int .u64 0, .bool false, .bool false] 54 := by rw [hV1]; exact (Blk.new2 _ _ _ _ _)
  clear hV1
  have hb0 := nhb0
  clear nhb0
  refine (pxSize_is n true HP0.out _in  _).mono ?_
  rintro e U2 ⟨rfl, hn⟩
  replace k1 := k1.of hn
  replace k2 := k2.of hn
  replace k3 := k3.of hn
  replace hb0 := hb0.trans (hn.mono hb0.size)
  clear hn
  have c1_0 : U2.cell? ⟨w.heap.size, 0, none⟩ = some (.int .i64 ax) := k1.cell 0
  have c1_1 : U2.cell? ⟨w.heap.size, 1, none⟩ = some (.int .i64 ay) := k1.cell 1
  have c1_2 : U2.cell? ⟨w.heap.size, 2, none⟩ = some (.int .i64 bx) := k1.cell 2
  have c1_3 : U2.cell? ⟨w.heap.size, 3, none⟩ = some (.int .i64 b_y) := k1.cell 3
  have l1 := k1.lt
  go_wp2_with fail
  clear c1_0 c1_1 c1_2 c1_3 l1
  refine (SegRight_is ax ay bx b_y true HP1.out _iax _iay _ibx _ib_y  _).mono ?_
  rintro e U3 ⟨rfl, hn⟩
  replace k1 := k1.of hn
  replace k2 := k2.of hn
  replace k3 := k3.of hn
  replace hb0 := hb0.trans (hn.mono hb0.size)
  clear hn
  have c2_0 : U3.cell? ⟨(w.heap.size + 1), 0, none⟩ = some (.int .i64 cx) := k2.cell 0
  have c2_1 : U3.cell? ⟨(w.heap.size + 1), 1, none⟩ = some (.int .i64 cy) := k2.cell 1
  have l2 := k2.lt
  go_wp2_with fail
  clear c2_0 c2_1 l2
  refine (PtRight_v cx cy true HP2.out _).mono ?_
  rintro e U4 ⟨rfl, hn⟩
  replace k1 := k1.of hn
  replace k2 := k2.of hn
  replace k3 := k3.of hn
  replace hb0 := hb0.trans (hn.mono hb0.size)
  clear hn
  go_wp2_with fail
  refine (rtOf_is 0 0 1 HP3.out HP4.out (by unfold In64; omega)  _).mono ?_
  rintro e U5 ⟨rfl, hn⟩
  replace k1 := k1.of hn
  replace k2 := k2.of hn
  replace k3 := k3.of hn
  replace hb0 := hb0.trans (hn.mono hb0.size)
  clear hn
  go_wp2_with fail
  refine (rtOf_is 1 1 1 HP5.out HP6.out (by unfold In64; omega)  _).mono ?_
  rintro e U6 ⟨rfl, hn⟩
  replace k1 := k1.of hn
  replace k2 := k2.of hn
  replace k3 := k3.of hn
  replace hb0 := hb0.trans (hn.mono hb0.size)
  clear hn
  go_wp2_with (first | ((with_reducible refine stRow (U6.heap.size) #[.int .u64 (wd0 0), .int .u64 (wd1 0), .int .u64 (wd2 0), .int .u64 (wd3 0), .int .u64 (wd0 1), .int .u64 (wd1 1), .int .u64 (wd2 1), .int .u64 (wd3 1), .int .u64 (wd0 1), .int .u64 (wd1 1), .int .u64 (wd2 1), .int .u64 (wd3 1), .int .u64 (wd0 1), .int .u64 (wd1 1), .int .u64 (wd2 1), .int .u64 (wd3 1), .bool false, .bool false] _ _ (Blk.new _ _ _) ?_ ?_ ?_ ?_ ?_ ?_); rfl; rfl; (as_aux_lemma => kernel_rfl); rfl; (as_aux_lemma => kernel_rfl); simp only [Act.put]))
  first | refine calls_w ?_ | refine name_world ?_ | refine list_world ?_ | refine post_world ?_
  intro V7 hV7
  rw [World.setRow_alloc_new] at hV7
  have D1 := Lib.hid k1.lt
  have D2 := Lib.hid k2.lt
  have D3 := Lib.hid k3.lt
  have D4 := Lib.hid hb0.size
  have hn : Below U6.heap.size U6 V7 := by rw [hV7]; exact below_a1 _ _
  have nk1 := k1.of hn
  have nk2 := k2.of hn
  have nk3 := k3.of hn
  have nhb0 := hb0.trans (hn.mono hb0.size)
  clear hn
  have k4 : Blk V7 U6.heap.size #[.int .u64 (wd0 0), .int .u64 (wd1 0), .int .u64 (wd2 0), .int .u64 (wd3 0), .int .u64 (wd0 1), .int .u64 (wd1 1), .int .u64 (wd2 1), .int .u64 (wd3 1), .int .u64 (wd0 1), .int .u64 (wd1 1), .int .u64 (wd2 1), .int .u64 (wd3 1), .int .u64 (wd0 1), .int .u64 (wd1 1), .int .u64 (wd2 1), .int .u64 (wd3 1), .bool false, .bool false] 54 := by rw [hV7]; exact (Blk.new _ _ _)
  clear k1 k2 k3
  clear hb0
  clear hV7
  have k1 := nk1
  clear nk1
  have k2 := nk2
  clear nk2
  have k3 := nk3
  clear nk3
  have hb0 := nhb0
  clear nhb0
  have c2_0 : V7.cell? ⟨(w.heap.size + 1), 0, none⟩ = some (.int .i64 cx) := k2.cell 0
  have c2_1 : V7.cell? ⟨(w.heap.size + 1), 1, none⟩ = some (.int .i64 cy) := k2.cell 1
  have l2 := k2.lt
  have Kk1 := Lib.hid k1
  clear k1
  have Kk2 := Lib.hid k2
  clear k2
  have Kk3 := Lib.hid k3
  clear k3
  have Kk4 := Lib.hid k4
  clear k4
  refine wp_region_up V7.heap.size 11 [(true, 0), (true, 1), (true, 2), (true, 3), (true, 4), (true, 5), (true, 6), (true, 7), (true, 8), (true, 9), (true, 10)] (by kernel_rfl) (by kernel_rfl) (fun _ _ d _ _ h => by cases d <;> exact h) ?_
  have hb : Below V7.heap.size V7 V7.drew := (Below.refl _ _).drew
  iterate 11
    refine wpS_takeL rfl rfl ?_
    go_big_quiet_step (rfl)
    refine wpQuiet_nil ?_
  refine wpS_nil ?_
  simp only [List.drop_succ_cons, List.drop_zero]
  first | refine calls_w ?_ | refine name_world ?_ | refine list_world ?_ | refine post_world ?_
  intro U8 hU8
  first | (subst hU8; have u_ := U8; clear u_) | (rw [← hU8] at hb; clear hU8)
  clear c2_0 c2_1 l2
  have k1 := Kk1.out.of hb
  clear Kk1
  have k2 := Kk2.out.of hb
  clear Kk2
  have k3 := Kk3.out.of hb
  clear Kk3
  have k4 := Kk4.out.of hb
  clear Kk4
  replace hb0 := hb0.trans (hb.mono hb0.size)
  clear hb
  have c1_0 : U8.cell? ⟨w.heap.size, 0, none⟩ = some (.int .i64 ax) := k1.cell 0
  have c1_2 : U8.cell? ⟨w.heap.size, 2, none⟩ = some (.int .i64 bx) := k1.cell 2
  have l1 := k1.lt
  go_wp2_with fail
  clear c1_0 c1_2 l1
  refine (pxba_is 0 1 1 1 false false ax (wrap64 (bx - ax)) (wrap64 ((wrap64 ((wrap64 (2 * cx)) * n)) - n)) (wrap64 ((wrap64 ((wrap64 (2 * cx)) * n)) + n)) true pfn pfd ptn ptd pfo pto HP7.out HP8.out HP9.out HP10.out HP11.out HP12.out HP13.out (by unfold InI b255; omega) (by unfold InI b255; omega) (by unfold InI b255; omega) (by unfold InI b255; omega) _iax (wrap64_in _) (wrap64_in _) (wrap64_in _) (U6.heap.size) _ k4).mono ?_
  rintro e U9 ⟨rfl, hk_, hn⟩
  clear k2
  replace k1 := k1.below hn (by have := D1.out; omega)
  replace k3 := k3.below hn (by have := D3.out; omega)
  replace k4 := hk_
  clear hk_
  replace hb0 := hb0.trans (hn.mono (by have := D4.out; omega))
  clear hn
  have c1_1 : U9.cell? ⟨w.heap.size, 1, none⟩ = some (.int .i64 ay) := k1.cell 1
  have c1_3 : U9.cell? ⟨w.heap.size, 3, none⟩ = some (.int .i64 b_y) := k1.cell 3
  have l1 := k1.lt
  go_wp2_with fail
  clear c1_1 c1_3 l1
  refine (pxba_is pfn pfd ptn ptd pfo pto ay (wrap64 (b_y - ay)) (wrap64 ((wrap64 ((wrap64 (2 * cy)) * n)) - n)) (wrap64 ((wrap64 ((wrap64 (2 * cy)) * n)) + n)) true qfn qfd qtn qtd qfo qto HP14.out HP15.out HP16.out HP17.out HP18.out HP19.out HP20.out _ipfn _ipfd _iptn _iptd _iay (wrap64_in _) (wrap64_in _) (wrap64_in _) (U6.heap.size) _ k4).mono ?_
  rintro e U10 ⟨rfl, hk_, hn⟩
  clear k1
  replace k3 := k3.below hn (by have := D3.out; omega)
  replace k4 := hk_
  clear hk_
  replace hb0 := hb0.trans (hn.mono (by have := D4.out; omega))
  clear hn
  go_wp2_with fail
  refine (pxsm_is qfn qfd qtn qtd qfo qto true qfn qfd qtn qtd qfo qto HP21.out HP22.out HP23.out HP24.out HP25.out HP26.out HP27.out _iqfn _iqfd _iqtn _iqtd (U6.heap.size) _ k4).mono ?_
  rintro e U11 ⟨rfl, hk_, hn⟩
  replace k3 := k3.below hn (by have := D3.out; omega)
  replace k4 := hk_
  clear hk_
  replace hb0 := hb0.trans (hn.mono (by have := D4.out; omega))
  clear hn
  have e0 : qfn = R0 := by rw [← HR0.out]; (try rw [HP0.out]); (try rw [HP1.out]); (try rw [HP2.out]); (try rw [HP3.out]); (try rw [HP4.out]); (try rw [HP5.out]); (try rw [HP6.out]); (try rw [HP7.out]); (try rw [HP8.out]); (try rw [HP9.out]); (try rw [HP10.out]); (try rw [HP11.out]); (try rw [HP12.out]); (try rw [HP13.out]); (try rw [HP14.out]); (try rw [HP15.out]); (try rw [HP16.out]); (try rw [HP17.out]); (try rw [HP18.out]); (try rw [HP19.out]); (try rw [HP20.out]); (try rw [HP21.out]); (try rw [HP22.out]); (try rw [HP23.out]); (try rw [HP24.out]); (try rw [HP25.out]); (try rw [HP26.out]); (try rw [HP27.out]); all_goals first | rfl | simp
  have e1 : qfd = R1 := by rw [← HR1.out]; (try rw [HP0.out]); (try rw [HP1.out]); (try rw [HP2.out]); (try rw [HP3.out]); (try rw [HP4.out]); (try rw [HP5.out]); (try rw [HP6.out]); (try rw [HP7.out]); (try rw [HP8.out]); (try rw [HP9.out]); (try rw [HP10.out]); (try rw [HP11.out]); (try rw [HP12.out]); (try rw [HP13.out]); (try rw [HP14.out]); (try rw [HP15.out]); (try rw [HP16.out]); (try rw [HP17.out]); (try rw [HP18.out]); (try rw [HP19.out]); (try rw [HP20.out]); (try rw [HP21.out]); (try rw [HP22.out]); (try rw [HP23.out]); (try rw [HP24.out]); (try rw [HP25.out]); (try rw [HP26.out]); (try rw [HP27.out]); all_goals first | rfl | simp
  have e2 : qtn = R2 := by rw [← HR2.out]; (try rw [HP0.out]); (try rw [HP1.out]); (try rw [HP2.out]); (try rw [HP3.out]); (try rw [HP4.out]); (try rw [HP5.out]); (try rw [HP6.out]); (try rw [HP7.out]); (try rw [HP8.out]); (try rw [HP9.out]); (try rw [HP10.out]); (try rw [HP11.out]); (try rw [HP12.out]); (try rw [HP13.out]); (try rw [HP14.out]); (try rw [HP15.out]); (try rw [HP16.out]); (try rw [HP17.out]); (try rw [HP18.out]); (try rw [HP19.out]); (try rw [HP20.out]); (try rw [HP21.out]); (try rw [HP22.out]); (try rw [HP23.out]); (try rw [HP24.out]); (try rw [HP25.out]); (try rw [HP26.out]); (try rw [HP27.out]); all_goals first | rfl | simp
  have e3 : qtd = R3 := by rw [← HR3.out]; (try rw [HP0.out]); (try rw [HP1.out]); (try rw [HP2.out]); (try rw [HP3.out]); (try rw [HP4.out]); (try rw [HP5.out]); (try rw [HP6.out]); (try rw [HP7.out]); (try rw [HP8.out]); (try rw [HP9.out]); (try rw [HP10.out]); (try rw [HP11.out]); (try rw [HP12.out]); (try rw [HP13.out]); (try rw [HP14.out]); (try rw [HP15.out]); (try rw [HP16.out]); (try rw [HP17.out]); (try rw [HP18.out]); (try rw [HP19.out]); (try rw [HP20.out]); (try rw [HP21.out]); (try rw [HP22.out]); (try rw [HP23.out]); (try rw [HP24.out]); (try rw [HP25.out]); (try rw [HP26.out]); (try rw [HP27.out]); all_goals first | rfl | simp
  have e4 : qfo = R4 := by rw [← HR4.out]; (try rw [HP0.out]); (try rw [HP1.out]); (try rw [HP2.out]); (try rw [HP3.out]); (try rw [HP4.out]); (try rw [HP5.out]); (try rw [HP6.out]); (try rw [HP7.out]); (try rw [HP8.out]); (try rw [HP9.out]); (try rw [HP10.out]); (try rw [HP11.out]); (try rw [HP12.out]); (try rw [HP13.out]); (try rw [HP14.out]); (try rw [HP15.out]); (try rw [HP16.out]); (try rw [HP17.out]); (try rw [HP18.out]); (try rw [HP19.out]); (try rw [HP20.out]); (try rw [HP21.out]); (try rw [HP22.out]); (try rw [HP23.out]); (try rw [HP24.out]); (try rw [HP25.out]); (try rw [HP26.out]); (try rw [HP27.out]); all_goals first | rfl | simp
  have e5 : qto = R5 := by rw [← HR5.out]; (try rw [HP0.out]); (try rw [HP1.out]); (try rw [HP2.out]); (try rw [HP3.out]); (try rw [HP4.out]); (try rw [HP5.out]); (try rw [HP6.out]); (try rw [HP7.out]); (try rw [HP8.out]); (try rw [HP9.out]); (try rw [HP10.out]); (try rw [HP11.out]); (try rw [HP12.out]); (try rw [HP13.out]); (try rw [HP14.out]); (try rw [HP15.out]); (try rw [HP16.out]); (try rw [HP17.out]); (try rw [HP18.out]); (try rw [HP19.out]); (try rw [HP20.out]); (try rw [HP21.out]); (try rw [HP22.out]); (try rw [HP23.out]); (try rw [HP24.out]); (try rw [HP25.out]); (try rw [HP26.out]); (try rw [HP27.out]); all_goals first | rfl | simp
  have e6 : true = R6 := by rw [← HR6.out]; (try rw [HP0.out]); (try rw [HP1.out]); (try rw [HP2.out]); (try rw [HP3.out]); (try rw [HP4.out]); (try rw [HP5.out]); (try rw [HP6.out]); (try rw [HP7.out]); (try rw [HP8.out]); (try rw [HP9.out]); (try rw [HP10.out]); (try rw [HP11.out]); (try rw [HP12.out]); (try rw [HP13.out]); (try rw [HP14.out]); (try rw [HP15.out]); (try rw [HP16.out]); (try rw [HP17.out]); (try rw [HP18.out]); (try rw [HP19.out]); (try rw [HP20.out]); (try rw [HP21.out]); (try rw [HP22.out]); (try rw [HP23.out]); (try rw [HP24.out]); (try rw [HP25.out]); (try rw [HP26.out]); (try rw [HP27.out]); all_goals first | rfl | simp
  subst e0
  subst e1
  subst e2
  subst e3
  subst e4
  subst e5
  subst e6
  go_wp2_with (first | ((with_reducible refine ldRow (U6.heap.size) #[.int .u64 (wd0 qfn), .int .u64 (wd1 qfn), .int .u64 (wd2 qfn), .int .u64 (wd3 qfn), .int .u64 (wd0 qfd), .int .u64 (wd1 qfd), .int .u64 (wd2 qfd), .int .u64 (wd3 qfd), .int .u64 (wd0 qtn), .int .u64 (wd1 qtn), .int .u64 (wd2 qtn), .int .u64 (wd3 qtn), .int .u64 (wd0 qtd), .int .u64 (wd1 qtd), .int .u64 (wd2 qtd), .int .u64 (wd3 qtd), .bool qfo, .bool qto] _ k4 ?_ ?_ ?_ ?_); rfl; exact ⟨_, rfl, rfl⟩; (as_aux_lemma => kernel_rfl); simp only [Act.put, List.setIfInBounds_toArray, List.set_cons_succ, List.set_cons_zero]) | ((with_reducible refine stRow (w.heap.size + 1 + 1) #[.int .u64 (wd0 qfn), .int .u64 (wd1 qfn), .int .u64 (wd2 qfn), .int .u64 (wd3 qfn), .int .u64 (wd0 qfd), .int .u64 (wd1 qfd), .int .u64 (wd2 qfd), .int .u64 (wd3 qfd), .int .u64 (wd0 qtn), .int .u64 (wd1 qtn), .int .u64 (wd2 qtn), .int .u64 (wd3 qtn), .int .u64 (wd0 qtd), .int .u64 (wd1 qtd), .int .u64 (wd2 qtd), .int .u64 (wd3 qtd), .bool qfo, .bool qto] _ _ k3 ?_ ?_ ?_ ?_ ?_ ?_); rfl; rfl; (as_aux_lemma => kernel_rfl); rfl; (as_aux_lemma => kernel_rfl); simp only [Act.put]))
  first | refine post_world ?_
  intro V12 hV12
  clear k4
  have D5 := Lib.hid k3.lt
  have D6 := Lib.hid hb0.size
  have nk3 : Blk V12 (w.heap.size + 1 + 1) #[.int .u64 (wd0 qfn), .int .u64 (wd1 qfn), .int .u64 (wd2 qfn), .int .u64 (wd3 qfn), .int .u64 (wd0 qfd), .int .u64 (wd1 qfd), .int .u64 (wd2 qfd), .int .u64 (wd3 qfd), .int .u64 (wd0 qtn), .int .u64 (wd1 qtn), .int .u64 (wd2 qtn), .int .u64 (wd3 qtn), .int .u64 (wd0 qtd), .int .u64 (wd1 qtd), .int .u64 (wd2 qtd), .int .u64 (wd3 qtd), .bool qfo, .bool qto] 54 := by rw [hV12]; exact blk_row k3 _
  have nhb0 : Below w.heap.size w V12 := by rw [hV12]; exact blw_row hb0 (by omega) _
  clear k3
  clear hb0
  clear hV12
  have k3 := nk3
  clear nk3
  have hb0 := nhb0
  clear nhb0
  refine ⟨rfl, _, results_row_tmp rfl _ _ _ _ _ _ _ rfl k3 rfl rfl (by as_aux_lemma => kernel_rfl), ?_, hb0⟩
  first | rfl | kernel_rfl
end Go.Proofs.Ytlcbomjdbdgbmaa

namespace Go.Proofs.Ytlcbomjdbdgbmaa
open Go.RowKit

theorem in_1 : InI 1 := by unfold InI b255; omega
theorem c1fn_in {ax : Int} (bx cx n : Int) (h : In64 ax) : InI (c1fn ax bx cx n) := bafn_in _ _ _ _ _ _ _ _ _ _ in_0 in_1 in_1 in_1 h (wrap64_in _) (wrap64_in _) (wrap64_in _)
theorem c1fd_in {ax : Int} (bx cx n : Int) (h : In64 ax) : InI (c1fd ax bx cx n) := bafd_in _ _ _ _ _ _ _ _ _ _ in_0 in_1 in_1 in_1 h (wrap64_in _) (wrap64_in _) (wrap64_in _)
theorem c1tn_in {ax : Int} (bx cx n : Int) (h : In64 ax) : InI (c1tn ax bx cx n) := batn_in _ _ _ _ _ _ _ _ _ _ in_0 in_1 in_1 in_1 h (wrap64_in _) (wrap64_in _) (wrap64_in _)
theorem c1td_in {ax : Int} (bx cx n : Int) (h : In64 ax) : InI (c1td ax bx cx n) := batd_in _ _ _ _ _ _ _ _ _ _ in_0 in_1 in_1 in_1 h (wrap64_in _) (wrap64_in _) (wrap64_in _)
theorem c2fn_in {ax ay : Int} (bx b_y cx cy n : Int) (h : In64 ax) (k : In64 ay) : InI (c2fn ax ay bx b_y cx cy n) := bafn_in _ _ _ _ _ _ _ _ _ _ (c1fn_in _ _ _ h) (c1fd_in _ _ _ h) (c1tn_in _ _ _ h) (c1td_in _ _ _ h) k (wrap64_in _) (wrap64_in _) (wrap64_in _)
theorem c2fd_in {ax ay : Int} (bx b_y cx cy n : Int) (h : In64 ax) (k : In64 ay) : InI (c2fd ax ay bx b_y cx cy n) := bafd_in _ _ _ _ _ _ _ _ _ _ (c1fn_in _ _ _ h) (c1fd_in _ _ _ h) (c1tn_in _ _ _ h) (c1td_in _ _ _ h) k (wrap64_in _) (wrap64_in _) (wrap64_in _)
theorem c2tn_in {ax ay : Int} (bx b_y cx cy n : Int) (h : In64 ax) (k : In64 ay) : InI (c2tn ax ay bx b_y cx cy n) := batn_in _ _ _ _ _ _ _ _ _ _ (c1fn_in _ _ _ h) (c1fd_in _ _ _ h) (c1tn_in _ _ _ h) (c1td_in _ _ _ h) k (wrap64_in _) (wrap64_in _) (wrap64_in _)
theorem c2td_in {ax ay : Int} (bx b_y cx cy n : Int) (h : In64 ax) (k : In64 ay) : InI (c2td ax ay bx b_y cx cy n) := batd_in _ _ _ _ _ _ _ _ _ _ (c1fn_in _ _ _ h) (c1fd_in _ _ _ h) (c1tn_in _ _ _ h) (c1td_in _ _ _ h) k (wrap64_in _) (wrap64_in _) (wrap64_in _)
theorem cut_v (ax : Int) (ay : Int) (bx : Int) (b_y : Int) (cx : Int) (cy : Int) (n : Int) (R0 : Int) (R1 : Int) (R2 : Int) (R3 : Int) (R4 : Bool) (R5 : Bool) (R6 : Bool) (h0 : cufn ax ay bx b_y cx cy n = R0) (h1 : cufd ax ay bx b_y cx cy n = R1) (h2 : cutn ax ay bx b_y cx cy n = R2) (h3 : cutd ax ay bx b_y cx cy n = R3) (h4 : cufo ax ay bx b_y cx cy n = R4) (h5 : cuto ax ay bx b_y cx cy n = R5) (h6 : cuk ax ay bx b_y cx cy n = R6) (_iax : In64 ax) (_iay : In64 ay) (_ibx : In64 bx) (_ib_y : In64 b_y) (_icx : In64 cx) (_icy : In64 cy) (_in : In64 n) (w : World) :
    Calls Try.prog 30 #[.agg #[.int .i64 ax, .int .i64 ay, .int .i64 bx, .int .i64 b_y], .agg #[.int .i64 cx, .int .i64 cy], .int .i64 n] w fun e w' => e = .returned (.tuple #[.agg #[.int .u64 (wd0 R0), .int .u64 (wd1 R0), .int .u64 (wd2 R0), .int .u64 (wd3 R0), .int .u64 (wd0 R1), .int .u64 (wd1 R1), .int .u64 (wd2 R1), .int .u64 (wd3 R1), .int .u64 (wd0 R2), .int .u64 (wd1 R2), .int .u64 (wd2 R2), .int .u64 (wd3 R2), .int .u64 (wd0 R3), .int .u64 (wd1 R3), .int .u64 (wd2 R3), .int .u64 (wd3 R3), .bool R4, .bool R5], .bool R6]) ∧ Below w.heap.size w w' := by
  rw [← h0, ← h1, ← h2, ← h3, ← h4, ← h5, ← h6]
  clear h0 h1 h2 h3 h4 h5 h6
  cases hS : pxS n
  · have k : cuk ax ay bx b_y cx cy n = false := by unfold cuk; rw [hS]; rfl
    have e0 : cufn ax ay bx b_y cx cy n = 0 := by unfold cufn; rw [k]; rfl
    have e1 : cufd ax ay bx b_y cx cy n = 0 := by unfold cufd; rw [k]; rfl
    have e2 : cutn ax ay bx b_y cx cy n = 0 := by unfold cutn; rw [k]; rfl
    have e3 : cutd ax ay bx b_y cx cy n = 0 := by unfold cutd; rw [k]; rfl
    have e4 : cufo ax ay bx b_y cx cy n = false := by unfold cufo; rw [k]; rfl
    have e5 : cuto ax ay bx b_y cx cy n = false := by unfold cuto; rw [k]; rfl
    rw [e0, e1, e2, e3, e4, e5, k]
    exact pxCut_0 ax ay bx b_y cx cy n _ _ _ _ _ _ _ rfl rfl rfl rfl rfl rfl rfl hS _iax _iay _ibx _ib_y _icx _icy _in w
  cases hG : sgR ax ay bx b_y
  · have k : cuk ax ay bx b_y cx cy n = false := by unfold cuk; rw [hS, hG]; rfl
    have e0 : cufn ax ay bx b_y cx cy n = 0 := by unfold cufn; rw [k]; rfl
    have e1 : cufd ax ay bx b_y cx cy n = 0 := by unfold cufd; rw [k]; rfl
    have e2 : cutn ax ay bx b_y cx cy n = 0 := by unfold cutn; rw [k]; rfl
    have e3 : cutd ax ay bx b_y cx cy n = 0 := by unfold cutd; rw [k]; rfl
    have e4 : cufo ax ay bx b_y cx cy n = false := by unfold cufo; rw [k]; rfl
    have e5 : cuto ax ay bx b_y cx cy n = false := by unfold cuto; rw [k]; rfl
    rw [e0, e1, e2, e3, e4, e5, k]
    exact pxCut_1 ax ay bx b_y cx cy n _ _ _ _ _ _ _ rfl rfl rfl rfl rfl rfl rfl hS hG _iax _iay _ibx _ib_y _icx _icy _in w
  cases hC : rp cx cy
  · have k : cuk ax ay bx b_y cx cy n = false := by unfold cuk; rw [hS, hG, hC]; rfl
    have e0 : cufn ax ay bx b_y cx cy n = 0 := by unfold cufn; rw [k]; rfl
    have e1 : cufd ax ay bx b_y cx cy n = 0 := by unfold cufd; rw [k]; rfl
    have e2 : cutn ax ay bx b_y cx cy n = 0 := by unfold cutn; rw [k]; rfl
    have e3 : cutd ax ay bx b_y cx cy n = 0 := by unfold cutd; rw [k]; rfl
    have e4 : cufo ax ay bx b_y cx cy n = false := by unfold cufo; rw [k]; rfl
    have e5 : cuto ax ay bx b_y cx cy n = false := by unfold cuto; rw [k]; rfl
    rw [e0, e1, e2, e3, e4, e5, k]
    exact pxCut_2 ax ay bx b_y cx cy n _ _ _ _ _ _ _ rfl rfl rfl rfl rfl rfl rfl hS hG hC _iax _iay _ibx _ib_y _icx _icy _in w
  cases h1 : c1k ax bx cx n
  · have k : cuk ax ay bx b_y cx cy n = false := by unfold cuk; rw [hS, hG, hC, h1]; rfl
    have e0 : cufn ax ay bx b_y cx cy n = 0 := by unfold cufn; rw [k]; rfl
    have e1 : cufd ax ay bx b_y cx cy n = 0 := by unfold cufd; rw [k]; rfl
    have e2 : cutn ax ay bx b_y cx cy n = 0 := by unfold cutn; rw [k]; rfl
    have e3 : cutd ax ay bx b_y cx cy n = 0 := by unfold cutd; rw [k]; rfl
    have e4 : cufo ax ay bx b_y cx cy n = false := by unfold cufo; rw [k]; rfl
    have e5 : cuto ax ay bx b_y cx cy n = false := by unfold cuto; rw [k]; rfl
    rw [e0, e1, e2, e3, e4, e5, k]
    exact pxCut_3 ax ay bx b_y cx cy n (c1fn ax bx cx n) (c1fd ax bx cx n) (c1tn ax bx cx n) (c1td ax bx cx n) (c1fo ax bx cx n) (c1to ax bx cx n) _ _ _ _ _ _ _ rfl rfl rfl rfl rfl rfl rfl hS hG hC rfl rfl rfl rfl h1 rfl rfl rfl rfl rfl rfl (c1fn_in _ _ _ _iax) (c1fd_in _ _ _ _iax) (c1tn_in _ _ _ _iax) (c1td_in _ _ _ _iax) _iax _iay _ibx _ib_y _icx _icy _in w
  cases h2 : c2k ax ay bx b_y cx cy n
  · have k : cuk ax ay bx b_y cx cy n = false := by unfold cuk; rw [hS, hG, hC, h1, h2]; rfl
    have e0 : cufn ax ay bx b_y cx cy n = 0 := by unfold cufn; rw [k]; rfl
    have e1 : cufd ax ay bx b_y cx cy n = 0 := by unfold cufd; rw [k]; rfl
    have e2 : cutn ax ay bx b_y cx cy n = 0 := by unfold cutn; rw [k]; rfl
    have e3 : cutd ax ay bx b_y cx cy n = 0 := by unfold cutd; rw [k]; rfl
    have e4 : cufo ax ay bx b_y cx cy n = false := by unfold cufo; rw [k]; rfl
    have e5 : cuto ax ay bx b_y cx cy n = false := by unfold cuto; rw [k]; rfl
    rw [e0, e1, e2, e3, e4, e5, k]
    exact pxCut_4 ax ay bx b_y cx cy n (c1fn ax bx cx n) (c1fd ax bx cx n) (c1tn ax bx cx n) (c1td ax bx cx n) (c1fo ax bx cx n) (c1to ax bx cx n) (c2fn ax ay bx b_y cx cy n) (c2fd ax ay bx b_y cx cy n) (c2tn ax ay bx b_y cx cy n) (c2td ax ay bx b_y cx cy n) (c2fo ax ay bx b_y cx cy n) (c2to ax ay bx b_y cx cy n) _ _ _ _ _ _ _ rfl rfl rfl rfl rfl rfl rfl hS hG hC rfl rfl rfl rfl h1 rfl rfl rfl rfl rfl rfl h2 rfl rfl rfl rfl rfl rfl (c1fn_in _ _ _ _iax) (c1fd_in _ _ _ _iax) (c1tn_in _ _ _ _iax) (c1td_in _ _ _ _iax) (c2fn_in _ _ _ _ _ _iax _iay) (c2fd_in _ _ _ _ _ _iax _iay) (c2tn_in _ _ _ _ _ _iax _iay) (c2td_in _ _ _ _ _ _iax _iay) _iax _iay _ibx _ib_y _icx _icy _in w
  cases h3 : smk_ (c2fn ax ay bx b_y cx cy n) (c2fd ax ay bx b_y cx cy n) (c2tn ax ay bx b_y cx cy n) (c2td ax ay bx b_y cx cy n) (c2fo ax ay bx b_y cx cy n) (c2to ax ay bx b_y cx cy n)
  · have k : cuk ax ay bx b_y cx cy n = false := by unfold cuk; rw [hS, hG, hC, h1, h2, h3]; rfl
    have e0 : cufn ax ay bx b_y cx cy n = 0 := by unfold cufn; rw [k]; rfl
    have e1 : cufd ax ay bx b_y cx cy n = 0 := by unfold cufd; rw [k]; rfl
    have e2 : cutn ax ay bx b_y cx cy n = 0 := by unfold cutn; rw [k]; rfl
    have e3 : cutd ax ay bx b_y cx cy n = 0 := by unfold cutd; rw [k]; rfl
    have e4 : cufo ax ay bx b_y cx cy n = false := by unfold cufo; rw [k]; rfl
    have e5 : cuto ax ay bx b_y cx cy n = false := by unfold cuto; rw [k]; rfl
    rw [e0, e1, e2, e3, e4, e5, k]
    exact pxCut_5 ax ay bx b_y cx cy n (c1fn ax bx cx n) (c1fd ax bx cx n) (c1tn ax bx cx n) (c1td ax bx cx n) (c1fo ax bx cx n) (c1to ax bx cx n) (c2fn ax ay bx b_y cx cy n) (c2fd ax ay bx b_y cx cy n) (c2tn ax ay bx b_y cx cy n) (c2td ax ay bx b_y cx cy n) (c2fo ax ay bx b_y cx cy n) (c2to ax ay bx b_y cx cy n) _ _ _ _ _ _ _ rfl rfl rfl rfl rfl rfl rfl hS hG hC rfl rfl rfl rfl h1 rfl rfl rfl rfl rfl rfl h2 rfl rfl rfl rfl rfl rfl h3 rfl rfl rfl rfl (smfo_eq (c2fn ax ay bx b_y cx cy n) (c2fd ax ay bx b_y cx cy n) (c2tn ax ay bx b_y cx cy n) (c2td ax ay bx b_y cx cy n) (c2fo ax ay bx b_y cx cy n) (c2to ax ay bx b_y cx cy n)) rfl (c1fn_in _ _ _ _iax) (c1fd_in _ _ _ _iax) (c1tn_in _ _ _ _iax) (c1td_in _ _ _ _iax) (c2fn_in _ _ _ _ _ _iax _iay) (c2fd_in _ _ _ _ _ _iax _iay) (c2tn_in _ _ _ _ _ _iax _iay) (c2td_in _ _ _ _ _ _iax _iay) _iax _iay _ibx _ib_y _icx _icy _in w
  have k : cuk ax ay bx b_y cx cy n = true := by unfold cuk; rw [hS, hG, hC, h1, h2, h3]; rfl
  have e0 : cufn ax ay bx b_y cx cy n = c2fn ax ay bx b_y cx cy n := by unfold cufn; rw [k]; exact rfl
  have e1 : cufd ax ay bx b_y cx cy n = c2fd ax ay bx b_y cx cy n := by unfold cufd; rw [k]; exact rfl
  have e2 : cutn ax ay bx b_y cx cy n = c2tn ax ay bx b_y cx cy n := by unfold cutn; rw [k]; exact rfl
  have e3 : cutd ax ay bx b_y cx cy n = c2td ax ay bx b_y cx cy n := by unfold cutd; rw [k]; exact rfl
  have e4 : cufo ax ay bx b_y cx cy n = c2fo ax ay bx b_y cx cy n := by unfold cufo; rw [k]; exact smfo_eq (c2fn ax ay bx b_y cx cy n) (c2fd ax ay bx b_y cx cy n) (c2tn ax ay bx b_y cx cy n) (c2td ax ay bx b_y cx cy n) (c2fo ax ay bx b_y cx cy n) (c2to ax ay bx b_y cx cy n)
  have e5 : cuto ax ay bx b_y cx cy n = c2to ax ay bx b_y cx cy n := by unfold cuto; rw [k]; exact rfl
  rw [e0, e1, e2, e3, e4, e5, k]
  exact pxCut_6 ax ay bx b_y cx cy n (c1fn ax bx cx n) (c1fd ax bx cx n) (c1tn ax bx cx n) (c1td ax bx cx n) (c1fo ax bx cx n) (c1to ax bx cx n) (c2fn ax ay bx b_y cx cy n) (c2fd ax ay bx b_y cx cy n) (c2tn ax ay bx b_y cx cy n) (c2td ax ay bx b_y cx cy n) (c2fo ax ay bx b_y cx cy n) (c2to ax ay bx b_y cx cy n) _ _ _ _ _ _ _ rfl rfl rfl rfl rfl rfl rfl hS hG hC rfl rfl rfl rfl h1 rfl rfl rfl rfl rfl rfl h2 rfl rfl rfl rfl rfl rfl h3 rfl rfl rfl rfl (smfo_eq (c2fn ax ay bx b_y cx cy n) (c2fd ax ay bx b_y cx cy n) (c2tn ax ay bx b_y cx cy n) (c2td ax ay bx b_y cx cy n) (c2fo ax ay bx b_y cx cy n) (c2to ax ay bx b_y cx cy n)) rfl (c1fn_in _ _ _ _iax) (c1fd_in _ _ _ _iax) (c1tn_in _ _ _ _iax) (c1td_in _ _ _ _iax) (c2fn_in _ _ _ _ _ _iax _iay) (c2fd_in _ _ _ _ _ _iax _iay) (c2tn_in _ _ _ _ _ _iax _iay) (c2td_in _ _ _ _ _ _iax _iay) _iax _iay _ibx _ib_y _icx _icy _in w
end Go.Proofs.Ytlcbomjdbdgbmaa

namespace Go.Proofs.Ytlcbomjdbdgbmaa
open Go.RowKit

def pxM (ax : Int) (ay : Int) (bx : Int) (b_y : Int) (cx : Int) (cy : Int) (n : Int) : Bool := (cuk ax ay bx b_y cx cy n)

set_option maxRecDepth 100000 in
set_option maxHeartbeats 4000000 in

theorem pxMt_is (ax : Int) (ay : Int) (bx : Int) (b_y : Int) (cx : Int) (cy : Int) (n : Int)  (R0 : Bool) (hR0 : pxM ax ay bx b_y cx cy n = R0) (_iax : In64 ax) (_iay : In64 ay) (_ibx : In64 bx) (_ib_y : In64 b_y) (_icx : In64 cx) (_icy : In64 cy) (_in : In64 n)  (w : World)  :
    Calls Try.prog 33 #[.agg #[.int .i64 ax, .int .i64 ay, .int .i64 bx, .int .i64 b_y], .agg #[.int .i64 cx, .int .i64 cy], .int .i64 n] w fun e w' => e = .returned (.bool R0) ∧ Below w.heap.size w w' := by

  have HR0 := Lib.hid hR0
  clear hR0
  go_enter Try.func33, Try.ntmps33
  go_wp2_with fail
  first | refine calls_w ?_ | refine name_world ?_ | refine list_world ?_ | refine post_world ?_
  intro V1 hV1
  have hn : Below w.heap.size w V1 := by rw [hV1]; exact below_a2 _ _ _
  have nhb0 := hn
  have k1 : Blk V1 w.heap.size #[.int .i64 ax, .int .i64 ay, .int .i64 bx, .int .i64 b_y] 50 := by rw [hV1]; exact ((Blk.new _ _ _).alloc _)
  have k2 : Blk V1 (w.heap.size + 1) #[.int .i64 cx, .int .i64 cy] 24 := by rw [hV1]; exact (Blk.new1 _ _ _ _)
  clear hV1
  have hb0 := nhb0
  clear nhb0
  obtain ⟨r1, hr1⟩ : ∃ o_o : Int, cufn ax ay bx b_y cx cy n = o_o := ⟨_, rfl⟩
  have Hr1 := Lib.hid hr1
  clear hr1
  obtain ⟨r2, hr2⟩ : ∃ o_o : Int, cufd ax ay bx b_y cx cy n = o_o := ⟨_, rfl⟩
  have Hr2 := Lib.hid hr2
  clear hr2
  obtain ⟨r3, hr3⟩ : ∃ o_o : Int, cutn ax ay bx b_y cx cy n = o_o := ⟨_, rfl⟩
  have Hr3 := Lib.hid hr3
  clear hr3
  obtain ⟨r4, hr4⟩ : ∃ o_o : Int, cutd ax ay bx b_y cx cy n = o_o := ⟨_, rfl⟩
  have Hr4 := Lib.hid hr4
  clear hr4
  obtain ⟨z5, hz5⟩ : ∃ o_o : Bool, cufo ax ay bx b_y cx cy n = o_o := ⟨_, rfl⟩
  have Hz5 := Lib.hid hz5
  clear hz5
  obtain ⟨z6, hz6⟩ : ∃ o_o : Bool, cuto ax ay bx b_y cx cy n = o_o := ⟨_, rfl⟩
  have Hz6 := Lib.hid hz6
  clear hz6
  obtain ⟨z7, hz7⟩ : ∃ o_o : Bool, cuk ax ay bx b_y cx cy n = o_o := ⟨_, rfl⟩
  have Hz7 := Lib.hid hz7
  clear hz7
  refine (cut_v ax ay bx b_y cx cy n r1 r2 r3 r4 z5 z6 z7 Hr1.out Hr2.out Hr3.out Hr4.out Hz5.out Hz6.out Hz7.out _iax _iay _ibx _ib_y _icx _icy _in _).mono ?_
  rintro e U2 ⟨rfl, hn⟩
  clear k1 k2
  replace hb0 := hb0.trans (hn.mono hb0.size)
  clear hn
  have e0 : z7 = R0 := by rw [← HR0.out]; unfold pxM; (try rw [Hr1.out]); (try rw [Hr2.out]); (try rw [Hr3.out]); (try rw [Hr4.out]); (try rw [Hz5.out]); (try rw [Hz6.out]); (try rw [Hz7.out]); all_goals first | rfl | simp
  subst e0
  go_wp2_with (first | ((with_reducible refine stRow (U2.heap.size) #[.int .u64 (wd0 r1), .int .u64 (wd1 r1), .int .u64 (wd2 r1), .int .u64 (wd3 r1), .int .u64 (wd0 r2), .int .u64 (wd1 r2), .int .u64 (wd2 r2), .int .u64 (wd3 r2), .int .u64 (wd0 r3), .int .u64 (wd1 r3), .int .u64 (wd2 r3), .int .u64 (wd3 r3), .int .u64 (wd0 r4), .int .u64 (wd1 r4), .int .u64 (wd2 r4), .int .u64 (wd3 r4), .bool z5, .bool z6] _ _ (Blk.new _ _ _) ?_ ?_ ?_ ?_ ?_ ?_); rfl; rfl; (as_aux_lemma => kernel_rfl); rfl; (as_aux_lemma => kernel_rfl); simp only [Act.put]))
  first | refine post_world ?_
  intro V3 hV3
  rw [World.setRow_alloc_new] at hV3
  have D1 := Lib.hid hb0.size
  have hn : Below U2.heap.size U2 V3 := by rw [hV3]; exact below_a1 _ _
  have nhb0 := hb0.trans (hn.mono hb0.size)
  clear hn
  clear hb0
  clear hV3
  have hb0 := nhb0
  clear nhb0
  simp [bodyPost, results, Try.results33, go_sem]
  first | exact hb0 | exact ⟨rfl, hb0⟩
end Go.Proofs.Ytlcbomjdbdgbmaa

namespace Go.Proofs.Ytlcbomjdbdgbmaa
open Go.RowKit

end Go.Proofs.Ytlcbomjdbdgbmaa
namespace Go.Proofs.Ytlcbomjdbdgbmaa
open Go.ChangeShapes Go.WideShapes Go.ChangeAt Go.RowKit Go.Joins

theorem own : ownKnob Try.prog.godebug = none := by kernel_rfl
theorem laidOut : laidOutB Try.prog = true := by kernel_rfl

theorem in64_wf {x : Int} (h : (Lit.int .i64 x).wf = true) : In64 x := by
  simp [Lit.wf, IntKind.min, IntKind.max, IntKind.signed, IntKind.bits] at h
  unfold In64; omega

section
variable {H : Type} {enc : TypeId × Value → H} {w : World} {base : Nat} {spare : Nat → Bool} {held : Bool}

end
end Go.Proofs.Ytlcbomjdbdgbmaa
namespace Go.Proofs.Ytlcbomjdbdgbmaa
open Go.ChangeShapes Go.WideShapes Go.ChangeAt Go.RowKit Go.Joins
section
variable {H : Type} {enc : TypeId × Value → H} {w : World} {base : Nat} {spare : Nat → Bool} {held : Bool}
set_option maxRecDepth 100000 in
theorem open_point {r : Reach} {b0 : Nat} {v : Value} {d : DataW H} {p : List MemPlace} (hv : Value.okWide Try.prog w r b0 24 v) (h : DataW.Trod enc Try.prog w base spare held 24 v d p) :
    ∃ x y, In64 x ∧ In64 y ∧ v = pI x y := by
  obtain ⟨v0, v1, y0, y1, n, rfl, _, _, t0, t1⟩ := open_agg2 Try.underlying24 (by kernel_rfl) (by kernel_rfl) hv h
  obtain ⟨a0, e0, _, g0⟩ := DataW.trod_int Try.underlying3 t0
  obtain ⟨a1, e1, _, g1⟩ := DataW.trod_int Try.underlying3 t1
  simp at e0 e1
  exact ⟨a0, a1, in64_wf g0, in64_wf g1, by rw [e0, e1]⟩
end
section
variable {H : Type} {enc : TypeId × Value → H} {w : World} {base : Nat} {spare : Nat → Bool} {held : Bool}
theorem open_pt2 {fuel : Nat} {c0 c1 : Value} {x : DataW H × List MemPlace} (h : DataW.trod enc Try.prog w base spare held fuel 24 [c0, c1] = some x) :
    ∃ a b, In64 a ∧ In64 b ∧ c0 = .int .i64 a ∧ c1 = .int .i64 b := by
  obtain ⟨xs, k, _, hx, _, hlen, hg⟩ := DataW.trod_struct Try.underlying24 h
  have hC1 : Try.prog.cellsOf 3 = 1 := by kernel_rfl
  match xs, hlen with
  | [y0, y1], _ =>
    have g0 := hg 0 _ rfl
    have g1 := hg 1 _ rfl
    simp [hC1] at g0 g1
    obtain ⟨a0, e0, _, k0⟩ := DataW.trod_int Try.underlying3 g0
    obtain ⟨a1, e1, _, k1⟩ := DataW.trod_int Try.underlying3 g1
    simp at e0 e1
    exact ⟨a0, a1, in64_wf k0, in64_wf k1, e0, e1⟩
end
end Go.Proofs.Ytlcbomjdbdgbmaa
namespace Go.Proofs.Ytlcbomjdbdgbmaa
open Go.RowKit

end Go.Proofs.Ytlcbomjdbdgbmaa
namespace Go.Proofs.Ytlcbomjdbdgbmaa
open Go.RowKit

end Go.Proofs.Ytlcbomjdbdgbmaa
namespace Go.Proofs.Ytlcbomjdbdgbmaa
open Go.RowKit

/-- a variable that holds a point of the document's answer -/
abbrev QVar (w : World) (b : Nat) (x y : Int) : Prop := Blk w b (pC x y) 31
theorem QVar.c {w : World} {b : Nat} {x y : Int} (h : QVar w b x y) : w.cell? ⟨b, 0, none⟩ = some (.int .i64 x) ∧ w.cell? ⟨b, 1, none⟩ = some (.int .i64 y) := ⟨h.cell 0, h.cell 1⟩
end Go.Proofs.Ytlcbomjdbdgbmaa
namespace Go.Proofs.Ytlcbomjdbdgbmaa
open Go.RowKit

end Go.Proofs.Ytlcbomjdbdgbmaa
namespace Go.Proofs.Ytlcbomjdbdgbmaa
open Go.RowKit

end Go.Proofs.Ytlcbomjdbdgbmaa

namespace Go.Proofs.Ytlcbomjdbdgbmaa
open Go.RowKit

theorem rRight_v (ax ay : Int) (c : Bool) (h : rp ax ay = c) (w : World) : Calls Try.prog 26 #[pI ax ay] w fun e w' => e = .returned (.bool c) ∧ Below w.heap.size w w' := h ▸ rRight_any ax ay w
end Go.Proofs.Ytlcbomjdbdgbmaa

namespace Go.Proofs.Ytlcbomjdbdgbmaa
open Go.RowKit

def rspR (X : Int) (Y : Int) (Z : Int) : Bool := (bif decide ((Z.sign) ≤ 0) then false else (bif decide (0 < (cmpI Z 1237940039285380274899124224)) then false else (bif decide (0 ≤ (cmpI X (-(2199023255552 * Z)))) then (bif decide ((cmpI X (2199023255552 * Z)) ≤ 0) then (bif decide (0 ≤ (cmpI Y (-(2199023255552 * Z)))) then decide ((cmpI Y (2199023255552 * Z)) ≤ 0) else false) else false) else false)))

end Go.Proofs.Ytlcbomjdbdgbmaa

namespace Go.Proofs.Ytlcbomjdbdgbmaa
open Go.RowKit

def prfx (x : Int) (_y : Int) : Int := x

def prfy (_x : Int) (y : Int) : Int := y

set_option maxRecDepth 100000 in
set_option maxHeartbeats 4000000 in

theorem p15ref_is (x : Int) (y : Int)  (R0 : Int) (R1 : Int) (hR0 : prfx x y = R0) (hR1 : prfy x y = R1) (_ix : In64 x) (_iy : In64 y)  (w : World)  :
    Calls Try.prog 32 #[.agg #[.int .i64 x, .int .i64 y]] w fun e w' => e = .returned (.agg #[.int .i64 R0, .int .i64 R1]) ∧ Below w.heap.size w w' := by

  have HR0 := Lib.hid hR0
  clear hR0
  have HR1 := Lib.hid hR1
  clear hR1
  go_enter Try.func32, Try.ntmps32
  have e0 : x = R0 := by rw [← HR0.out]; unfold prfx; all_goals first | rfl | simp
  have e1 : y = R1 := by rw [← HR1.out]; unfold prfy; all_goals first | rfl | simp
  subst e0
  subst e1
  go_wp2
  first | refine post_world ?_
  intro V1 hV1
  have hn : Below w.heap.size w V1 := by rw [hV1]; exact below_a2 _ _ _
  have nhb0 := hn
  have k2 : Blk V1 (w.heap.size + 1) #[.int .i64 x, .int .i64 y] 31 := by rw [hV1]; exact (Blk.new1 _ _ _ _)
  clear hV1
  have hb0 := nhb0
  clear nhb0
  have g2_0 : V1.cell? ⟨(w.heap.size + 1), 0, none⟩ = some (.int .i64 x) := k2.cell 0
  have g2_1 : V1.cell? ⟨(w.heap.size + 1), 1, none⟩ = some (.int .i64 y) := k2.cell 1
  clear k2
  simp [bodyPost, results, Try.results32, go_sem, g2_0, g2_1]
  first | exact hb0 | exact ⟨rfl, hb0⟩

def psz (n : Int) : Bool := (bif decide (1 ≤ n) then decide (n ≤ 1048576) else false)

set_option maxRecDepth 100000 in
set_option maxHeartbeats 4000000 in

theorem p15size_is (n : Int)  (R0 : Bool) (hR0 : psz n = R0) (_in : In64 n)  (w : World)  :
    Calls Try.prog 31 #[.int .i64 n] w fun e w' => e = .returned (.bool R0) ∧ Below w.heap.size w w' := by

  have HR0 := Lib.hid hR0
  clear hR0
  obtain ⟨z1, hz1⟩ : ∃ o_o : Bool, decide (1 ≤ n) = o_o := ⟨_, rfl⟩
  cases z1
  · go_enter Try.func31, Try.ntmps31
    have e0 : false = R0 := by rw [← HR0.out]; unfold psz; (try rw [hz1]); all_goals first | rfl | simp
    subst e0
    go_wp2
    first | go_ret | go_ret2
    exact ⟨by first | rfl | simp, Below.refl _ _⟩
  · go_enter Try.func31, Try.ntmps31
    have e0 : decide (n ≤ 1048576) = R0 := by rw [← HR0.out]; unfold psz; (try rw [hz1]); all_goals first | rfl | simp
    subst e0
    go_wp2
    first | go_ret | go_ret2
    exact ⟨by first | rfl | simp, Below.refl _ _⟩
end Go.Proofs.Ytlcbomjdbdgbmaa

namespace Go.Proofs.Ytlcbomjdbdgbmaa
open Go.RowKit

set_option maxRecDepth 100000 in
set_option maxHeartbeats 4000000 in

theorem p15awake_is     (hP0 : pxM (-20) 0 20 0 0 0 10 = true) (hP1 : pxM (-20) 0 20 0 0 1 10 = false) (hP2 : atx 5 0 = 5) (hP3 : aty 5 0 = 0) (hP4 : atw 5 0 = 1) (hP5 : pxOx 5 0 1 10 = 1) (hP6 : pxOy 5 0 1 10 = 0) (hP7 : pxOe 5 0 1 10 = 0) (hP8 : atx (-5) 0 = (-5)) (hP9 : aty (-5) 0 = 0) (hP10 : atw (-5) 0 = 1) (hP11 : pxOx (-5) 0 1 10 = 0) (hP12 : pxOy (-5) 0 1 10 = 0) (hP13 : pxOe (-5) 0 1 10 = 0) (hP14 : pxOx 0 0 0 10 = 0) (hP15 : pxOy 0 0 0 10 = 0) (hP16 : pxOe 0 0 0 10 = 11)  (w : World)  :
    Calls Try.prog 34 #[] w fun e w' => e = .returned (.bool true) ∧ Below w.heap.size w w' := by

  have HP0 := Lib.hid hP0
  clear hP0
  have HP1 := Lib.hid hP1
  clear hP1
  have HP2 := Lib.hid hP2
  clear hP2
  have HP3 := Lib.hid hP3
  clear hP3
  have HP4 := Lib.hid hP4
  clear hP4
  have HP5 := Lib.hid hP5
  clear hP5
  have HP6 := Lib.hid hP6
  clear hP6
  have HP7 := Lib.hid hP7
  clear hP7
  have HP8 := Lib.hid hP8
  clear hP8
  have HP9 := Lib.hid hP9
  clear hP9
  have HP10 := Lib.hid hP10
  clear hP10
  have HP11 := Lib.hid hP11
  clear hP11
  have HP12 := Lib.hid hP12
  clear hP12
  have HP13 := Lib.hid hP13
  clear hP13
  have HP14 := Lib.hid hP14
  clear hP14
  have HP15 := Lib.hid hP15
  clear hP15
  have HP16 := Lib.hid hP16
  clear hP16
  go_enter Try.func34, Try.ntmps34
  go_wp2_with fail
  refine (crAt_is 5 0 5 0 1 HP2.out HP3.out HP4.out (by unfold In64; omega) (by unfold In64; omega)  _).mono ?_
  rintro e U1 ⟨rfl, hn⟩
  have hb0 := hn
  clear hn
  go_wp2_with fail
  refine (pxOf_is 5 0 1 10 1 0 0 HP5.out HP6.out HP7.out (by unfold InI b255; omega) (by unfold InI b255; omega) (by unfold InI b255; omega) (by unfold In64; omega)  _).mono ?_
  rintro e U2 ⟨rfl, hn⟩
  replace hb0 := hb0.trans (hn.mono hb0.size)
  clear hn
  go_wp2_with fail
  first | refine calls_w ?_ | refine name_world ?_ | refine list_world ?_ | refine post_world ?_
  intro V3 hV3
  have D1 := Lib.hid hb0.size
  have hn : Below U2.heap.size U2 V3 := by rw [hV3]; exact below_a1 _ _
  have nhb0 := hb0.trans (hn.mono hb0.size)
  clear hn
  have k1 : Blk V3 U2.heap.size #[.int .i64 1, .int .i64 0] 24 := by rw [hV3]; exact (Blk.new _ _ _)
  clear hb0
  clear hV3
  have hb0 := nhb0
  clear nhb0
  refine (crAt_is (-5) 0 (-5) 0 1 HP8.out HP9.out HP10.out (by unfold In64; omega) (by unfold In64; omega)  _).mono ?_
  rintro e U4 ⟨rfl, hn⟩
  replace k1 := k1.of hn
  replace hb0 := hb0.trans (hn.mono hb0.size)
  clear hn
  go_wp2_with fail
  refine (pxOf_is (-5) 0 1 10 0 0 0 HP11.out HP12.out HP13.out (by unfold InI b255; omega) (by unfold InI b255; omega) (by unfold InI b255; omega) (by unfold In64; omega)  _).mono ?_
  rintro e U5 ⟨rfl, hn⟩
  replace k1 := k1.of hn
  replace hb0 := hb0.trans (hn.mono hb0.size)
  clear hn
  go_wp2_with fail
  first | refine calls_w ?_ | refine name_world ?_ | refine list_world ?_ | refine post_world ?_
  intro V6 hV6
  have D2 := Lib.hid k1.lt
  have D3 := Lib.hid hb0.size
  have hn : Below U5.heap.size U5 V6 := by rw [hV6]; exact below_a1 _ _
  have nk1 := k1.of hn
  have nhb0 := hb0.trans (hn.mono hb0.size)
  clear hn
  have k2 : Blk V6 U5.heap.size #[.int .i64 0, .int .i64 0] 24 := by rw [hV6]; exact (Blk.new _ _ _)
  clear k1
  clear hb0
  clear hV6
  have k1 := nk1
  clear nk1
  have hb0 := nhb0
  clear nhb0
  refine (args_eq (a' := #[.agg #[.int .u64 0, .int .u64 0, .int .u64 0, .int .u64 0, .int .u64 0, .int .u64 0, .int .u64 0, .int .u64 0, .int .u64 0, .int .u64 0, .int .u64 0, .int .u64 0], .int .i64 10]) (pxOf_is 0 0 0 10 0 0 11 HP14.out HP15.out HP16.out (by unfold InI b255; omega) (by unfold InI b255; omega) (by unfold InI b255; omega) (by unfold In64; omega)  _) (by kernel_rfl)).mono ?_
  rintro e U7 ⟨rfl, hn⟩
  replace k1 := k1.of hn
  replace k2 := k2.of hn
  replace hb0 := hb0.trans (hn.mono hb0.size)
  clear hn
  have c1_0 : U7.cell? ⟨U2.heap.size, 0, none⟩ = some (.int .i64 1) := k1.cell 0
  have c1_1 : U7.cell? ⟨U2.heap.size, 1, none⟩ = some (.int .i64 0) := k1.cell 1
  have l1 := k1.lt
  have c2_0 : U7.cell? ⟨U5.heap.size, 0, none⟩ = some (.int .i64 0) := k2.cell 0
  have c2_1 : U7.cell? ⟨U5.heap.size, 1, none⟩ = some (.int .i64 0) := k2.cell 1
  have l2 := k2.lt
  go_wp2_with fail
  clear c1_0 c1_1 l1 c2_0 c2_1 l2
  first | refine calls_w ?_ | refine name_world ?_ | refine list_world ?_ | refine post_world ?_
  intro V8 hV8
  clear k1 k2
  have D4 := Lib.hid hb0.size
  have hn : Below U7.heap.size U7 V8 := by rw [hV8]; exact below_a2 _ _ _
  have nhb0 := hb0.trans (hn.mono hb0.size)
  clear hn
  have k3 : Blk V8 U7.heap.size #[.int .i64 0, .int .i64 0] 24 := by rw [hV8]; exact ((Blk.new _ _ _).alloc _)
  have k4 : Blk V8 (U7.heap.size + 1) #[.int .i64 ((-20)), .int .i64 0, .int .i64 20, .int .i64 0] 50 := by rw [hV8]; exact (Blk.new1 _ _ _ _)
  clear hb0
  clear hV8
  have hb0 := nhb0
  clear nhb0
  refine (pxMt_is (-20) 0 20 0 0 0 10 true HP0.out (by unfold In64; omega) (by unfold In64; omega) (by unfold In64; omega) (by unfold In64; omega) (by unfold In64; omega) (by unfold In64; omega) (by unfold In64; omega)  _).mono ?_
  rintro e U9 ⟨rfl, hn⟩
  clear k3
  replace k4 := k4.of hn
  replace hb0 := hb0.trans (hn.mono hb0.size)
  clear hn
  have c4_0 : U9.cell? ⟨(U7.heap.size + 1), 0, none⟩ = some (.int .i64 ((-20))) := k4.cell 0
  have c4_1 : U9.cell? ⟨(U7.heap.size + 1), 1, none⟩ = some (.int .i64 0) := k4.cell 1
  have c4_2 : U9.cell? ⟨(U7.heap.size + 1), 2, none⟩ = some (.int .i64 20) := k4.cell 2
  have c4_3 : U9.cell? ⟨(U7.heap.size + 1), 3, none⟩ = some (.int .i64 0) := k4.cell 3
  have l4 := k4.lt
  go_wp2_with fail
  clear c4_0 c4_1 c4_2 c4_3 l4
  refine (pxMt_is (-20) 0 20 0 0 1 10 false HP1.out (by unfold In64; omega) (by unfold In64; omega) (by unfold In64; omega) (by unfold In64; omega) (by unfold In64; omega) (by unfold In64; omega) (by unfold In64; omega)  _).mono ?_
  rintro e U10 ⟨rfl, hn⟩
  clear k4
  replace hb0 := hb0.trans (hn.mono hb0.size)
  clear hn
  go_wp2
  first | go_ret | go_ret2
  exact ⟨by first | rfl | (simp; done) | (simp; assumption), hb0⟩
end Go.Proofs.Ytlcbomjdbdgbmaa

namespace Go.Proofs.Ytlcbomjdbdgbmaa
open Go.RowKit

set_option maxRecDepth 100000 in
theorem p15awake_any (w : World) : Calls Try.prog 34 #[] w fun e w' => e = .returned (.bool true) ∧ Below w.heap.size w w' :=
  p15awake_is (by kernel_rfl) (by kernel_rfl) (by kernel_rfl) (by kernel_rfl) (by kernel_rfl) (by kernel_rfl) (by kernel_rfl) (by kernel_rfl) (by kernel_rfl) (by kernel_rfl) (by kernel_rfl) (by kernel_rfl) (by kernel_rfl) (by kernel_rfl) (by kernel_rfl) (by kernel_rfl) (by kernel_rfl) w
end Go.Proofs.Ytlcbomjdbdgbmaa

namespace Go.Proofs.Ytlcbomjdbdgbmaa
open Go.RowKit

/-- within a fraction two numbers are held against one another one step deeper -/
@[go_sem] theorem run_eqI9 (a0 a1 a2 a3 b0 b1 b2 b3 : Int) (w : World) :
    (Op.equalIn 9999 35 (.agg #[.int .u64 a0, .int .u64 a1, .int .u64 a2, .int .u64 a3]) (.agg #[.int .u64 b0, .int .u64 b1, .int .u64 b2, .int .u64 b3])).run Try.prog w = .ok (eq4 a0 a1 a2 a3 b0 b1 b2 b3) w := by
  have hu : Try.prog.underlying 35 = some (.array 4 33) := by kernel_rfl
  have hs : ∀ w, (sizeOf 33).run Try.prog w = .ok 1 w := fun w => by kernel_rfl
  have he : ∀ (a b : Int) w, (Op.equalIn 9998 33 (.int .u64 a) (.int .u64 b)).run Try.prog w = .ok (a == b) w := fun a b w => run_equalIn_int w 9997 _ .u64 .u64 a b (by kernel_rfl)
  have hp : ∀ (c : Array Value) (i : Nat) (v : Value) w, c[i]? = some v → (part 33 c i).run Try.prog w = .ok v w := by
    intro c i v w h
    have ha : (isAgg 33).run Try.prog w = .ok false w := by kernel_rfl
    unfold part
    simp [Sem.run_bind, ha, h]
  show (Op.equalIn (9998 + 1) _ _ _).run _ _ = _
  unfold Op.equalIn
  simp only [Sem.run_bind, run_underlying hu, Result.andThen_ok, hs]
  simp [List.range', he, hp, Sem.run_bind]
  unfold eq4
  by_cases h0 : a0 = b0 <;> by_cases h1 : a1 = b1 <;> by_cases h2 : a2 = b2 <;> by_cases h3 : a3 = b3 <;> simp [h0, h1, h2, h3]

@[go_sem] theorem eqP_self (a b : Int) : eqP a b a b = true := by unfold eqP; simp
@[go_sem] theorem eqP_ne {a b c d : Int} (h : ¬ a = c) : eqP a b c d = false := by unfold eqP; simp [h]
@[go_sem] theorem eqP_ne' {a b c d : Int} (h : ¬ c = a) : eqP a b c d = false := eqP_ne fun e => h e.symm
@[go_sem] theorem eqP_me {a b c d : Int} (h : ¬ b = d) : eqP a b c d = false := by unfold eqP; simp [h]
@[go_sem] theorem eqP_me' {a b c d : Int} (h : ¬ d = b) : eqP a b c d = false := eqP_me fun e => h e.symm
end Go.Proofs.Ytlcbomjdbdgbmaa

namespace Go.Proofs.Ytlcbomjdbdgbmaa
open Go.RowKit

/-- the spots that are right, in numbers -/
theorem sp_most {v : Int} (h0 : 0 < v) (h1 : v ≤ 1237940039285380274899124224) : mulv v 2199023255552 = 2199023255552 * v ∧ subv 0 (2199023255552 * v) = -(2199023255552 * v) := by
  refine ⟨?_, ?_⟩
  · rw [mulv_id (by unfold InI b255; omega)]; omega
  · rw [subv_id (by unfold InI b255; omega)]; omega
theorem most90 : mulv 35184372088832 35184372088832 = 1237940039285380274899124224 := by decide
theorem spR_eq (x y v : Int) : spR x y v = rspR x y v := by
  unfold spR rspR
  rw [most90]
  by_cases h0 : v.sign ≤ 0
  · rw [decide_eq_true h0]; rfl
  · rw [decide_eq_false h0]
    by_cases h1 : 0 < cmpI v 1237940039285380274899124224
    · rw [decide_eq_true h1]; rfl
    · rw [decide_eq_false h1]
      have p0 : 0 < v := by
        rcases Int.lt_trichotomy v 0 with h | h | h
        · exact absurd (by rw [Int.sign_eq_neg_one_of_neg h]; decide) h0
        · exact absurd (by rw [h]; decide) h0
        · exact h
      have p1 : v ≤ 1237940039285380274899124224 := by
        rcases Int.lt_trichotomy v 1237940039285380274899124224 with h | h | h
        · omega
        · omega
        · exact absurd (by rw [cmpI_gt h]; decide) h1
      obtain ⟨e1, e2⟩ := sp_most p0 p1
      rw [e1, e2]
theorem cmp_le0 {a b : Int} : decide (cmpI a b ≤ 0) = decide (a ≤ b) := by
  rcases Int.lt_trichotomy a b with h | h | h
  · rw [cmpI_lt h, decide_eq_true (show a ≤ b by omega)]; rfl
  · subst h; rw [cmpI_eq, decide_eq_true (Int.le_refl a)]; rfl
  · rw [cmpI_gt h, decide_eq_false (show ¬ a ≤ b by omega)]; rfl
theorem cmp_ge0 {a b : Int} : decide (0 ≤ cmpI a b) = decide (b ≤ a) := by
  rcases Int.lt_trichotomy a b with h | h | h
  · rw [cmpI_lt h, decide_eq_false (show ¬ b ≤ a by omega)]; rfl
  · subst h; rw [cmpI_eq, decide_eq_true (Int.le_refl a)]; rfl
  · rw [cmpI_gt h, decide_eq_true (show b ≤ a by omega)]; rfl
theorem cmp_gt0 {a b : Int} : decide (0 < cmpI a b) = decide (b < a) := by
  rcases Int.lt_trichotomy a b with h | h | h
  · rw [cmpI_lt h, decide_eq_false (show ¬ b < a by omega)]; rfl
  · subst h; rw [cmpI_eq, decide_eq_false (show ¬ a < a by omega)]; rfl
  · rw [cmpI_gt h, decide_eq_true h]; rfl
theorem sign_le0 {x : Int} : decide (x.sign ≤ 0) = decide (x ≤ 0) := by rw [← cmpI_sign, cmp_le0]
end Go.Proofs.Ytlcbomjdbdgbmaa

namespace Go.Proofs.Ytlcbomjdbdgbmaa
open Go.RowKit

theorem pxO_of {x y v n : Int} (hS : pxS n = true) (hR : spR x y v = true) : pxOx x y v n = pxc x v n ∧ pxOy x y v n = pxc y v n ∧ pxOe x y v n = 0 := by
  unfold pxOx pxOy pxOe
  rw [hS, hR]
  exact ⟨rfl, rfl, rfl⟩
theorem pxO_no {x y v n : Int} (h : pxS n = false ∨ spR x y v = false) : pxOx x y v n = 0 ∧ pxOy x y v n = 0 ∧ pxOe x y v n = 11 := by
  unfold pxOx pxOy pxOe
  rcases h with h | h
  · rw [h]; exact ⟨rfl, rfl, rfl⟩
  · rw [h]; cases pxS n <;> exact ⟨rfl, rfl, rfl⟩
end Go.Proofs.Ytlcbomjdbdgbmaa

namespace Go.Proofs.Ytlcbomjdbdgbmaa
open Go.RowKit

def S3 (x : Int) : Prop := x = -1 ∨ x = 0 ∨ x = 1
theorem S3.wrap {x : Int} (hx : S3 x) : wrap64 x = x := by
  unfold S3 at *
  rcases hx with rfl | rfl | rfl <;> unfold wrap64 <;> omega
end Go.Proofs.Ytlcbomjdbdgbmaa

namespace Go.Proofs.Ytlcbomjdbdgbmaa
namespace Stay
open Go Go.RowKit

section
variable {P : Program} {ops : Array Oper} {Q : Exit → Act → World → Prop} {md : Region.Mode} {W : World}

/-- the first part of a schedule: its items lie below j0, and none of them is number j0 or comes behind it -/
def schedFG (md : Region.Mode) (ops : Array Oper) (j0 jc : Nat) (τ : List (Nat × Nat)) : List (Nat × Nat) → Array Bool → Bool
  | [], listed => decide (Region.ready md ops listed = [j0]) && schedG md ops jc τ listed
  | (k, i) :: σ, listed => decide (i < j0) && (k == 0 || k == 1 || k == 2) && itemB md ops jc k i listed && schedFG md ops j0 jc τ σ (listed.setIfInBounds i true)

theorem floatG_main {j0 jc : Nat} {A : List Nat} {z : Nat → Obj} {τ : List (Nat × Nat)} (hsel : Region.noSelect ops = true) (hQ : ∀ c a d v w, Q (.panic c) (Act.put a d v) w ↔ Q (.panic c) a w) (hj0 : j0 < ops.size)
    (ok : FloatOk ops j0 A) (hAw : ∀ i ∈ A, Region.waitsFor md ops j0 i = true) (hAl : ∀ i ∈ A, ∀ oi, ops[i]? = some oi → ∀ ρ w, (execOp ρ oi).run P w = .ok (.value (ptrTo w.heap.size)) (w.alloc (z i))) :
    ∀ (f : Nat) (σ : List (Nat × Nat)) (D : List Nat) (β : Nat → Nat) (a0 : Act) (w0 w : World) (ls listed : Array Bool), σ.length + (A.length - D.length) = f → FlSt md ops ops.size A W z ls listed D β w →
      schedFG md ops j0 jc τ σ ls = true → Below w0.heap.size w0 w → wpFG P ops W Q (fun a w => ∀ w1, Below w.heap.size w w1 → Below W.heap.size W w1 → ∀ β, Good W z β A w1 → wpG P ops (fun w' => ∃ u : UpTo W.heap.size W, w' = u.w) Q τ (puts ops β A a) w1) σ a0 w0 →
      wpAnyHS P md ops Q (fun w' => ∃ u : UpTo W.heap.size W, w' = u.w) jc (fun listed' a' w' => Region.ready md ops listed' = [] ∧ Q .normal a' w') (f + τ.length) listed (puts ops β D a0) w := by
  intro f
  have fin : ∀ (D : List Nat) (β : Nat → Nat) (a0 : Act) (w0 w : World) (ls listed : Array Bool), A.length ≤ D.length → FlSt md ops ops.size A W z ls listed D β w → schedG md ops jc τ ls = true → Below w0.heap.size w0 w →
      (∀ w1, Below w0.heap.size w0 w1 → Below W.heap.size W w1 → ∀ β, Good W z β A w1 → wpG P ops (fun w' => ∃ u : UpTo W.heap.size W, w' = u.w) Q τ (puts ops β A a0) w1) →
      wpAnyHS P md ops Q (fun w' => ∃ u : UpTo W.heap.size W, w' = u.w) jc (fun listed' a' w' => Region.ready md ops listed' = [] ∧ Q .normal a' w') τ.length listed (puts ops β D a0) w := by
    intro D β a0 w0 w ls listed hlen s hB hb h
    have hp : D.Perm A := nodup_perm s.dn s.da hlen
    have e : listed = ls := by
      refine Array.ext (s.size.trans s.lsz.symm) fun i h1 h2 => ?_
      have e1 : listed.getD i false = listed[i] := by simp [h1]
      have e2 : ls.getD i false = ls[i] := by simp [h2]
      rw [← e1, ← e2, Bool.eq_iff_iff]
      refine ⟨s.sub i, fun hi => ?_⟩
      by_cases hA : i ∈ A
      · exact (s.flo i hA).2 (hp.mem_iff.2 hA)
      · exact s.sup i hi hA
    rw [puts_perm ok β a0 s.da hp, e]
    exact wpAnyHS_of_G hsel (fun c a d v w => (hQ c a d v w).1) τ ls _ w (e ▸ s.inv) hB (.inl (up_iff.2 s.cw)) (h w hb s.cw β ⟨fun i hi => s.good.1 i (hp.mem_iff.2 hi), fun i hi j hj => s.good.2 i (hp.mem_iff.2 hi) j (hp.mem_iff.2 hj)⟩)
  induction f with
  | zero =>
    intro σ D β a0 w0 w ls listed hf s hB hb h
    have hσ : σ = [] := List.length_eq_zero_iff.1 (by omega)
    subst hσ
    simp only [schedFG, Bool.and_eq_true] at hB
    rw [Nat.zero_add]
    exact fin D β a0 w0 w ls listed (by simp only [List.length_nil] at hf; omega) s hB.2 hb h
  | succ f ih =>
    intro σ D β a0 w0 w ls listed hf s hB hb h
    rw [show f + 1 + τ.length = (f + τ.length) + 1 by omega]
    have allocs : ∀ i, i ∈ A → i ∉ D → wpOp P ops Q i (fun a' w' => ClsAt (fun w' => ∃ u : UpTo W.heap.size W, w' = u.w) jc (listed.setIfInBounds i true) w' ∧ wpAnyHS P md ops Q (fun w' => ∃ u : UpTo W.heap.size W, w' = u.w) jc (fun listed' a' w' => Region.ready md ops listed' = [] ∧ Q .normal a' w') (f + τ.length) (listed.setIfInBounds i true) a' w') (puts ops β D a0) w := by
      intro i hA hD
      refine made_step ok hAl hA hD ?_
      have s' := s.made ok (Nat.le_of_lt hj0) hA hD
      refine ⟨.inl (up_iff.2 s'.cw), ih σ (i :: D) _ a0 w0 (w.alloc (z i)) ls _ ?_ s' hB (hb.alloc hb.size _) h⟩
      have hle : (i :: D).length ≤ A.length := nodup_le (List.nodup_cons.2 ⟨hD, s.dn⟩) s'.da
      simp only [List.length_cons] at hle ⊢
      omega
    match σ, hf, hB, h with
    | [], hf, hB, h =>
      simp only [schedFG, Bool.and_eq_true, decide_eq_true_eq] at hB
      have hpend : ∃ i, i ∈ A ∧ i ∉ D := by
        refine Classical.byContradiction fun hno => ?_
        have hsub : ∀ i ∈ A, i ∈ D := fun i hi => Classical.byContradiction fun h' => hno ⟨i, hi, h'⟩
        have := nodup_le ok.nodup hsub
        simp only [List.length_nil] at hf; omega
      obtain ⟨i, hA, hD⟩ := hpend
      have hri := s.pending ok hA hD
      refine ⟨fun h0 => (by rw [h0] at hri; cases hri), fun j hj => ?_⟩
      rcases s.ready hj with ⟨h1, h2⟩ | ⟨_, h2⟩
      · exact allocs j h1 h2
      · rw [hB.1] at h2
        have hjj : j = j0 := by simpa using h2
        subst hjj
        obtain ⟨o, ho, e, he, hbd, hon⟩ := Region.waitsFor_spec (hAw i hA)
        obtain ⟨_, o', ho', hall⟩ := mem_ready.1 hj
        obtain rfl : o = o' := Option.some.inj (ho.symm.trans ho')
        have h3 := hall e he hbd
        rw [hon] at h3
        exact absurd ((s.flo i hA).1 h3) hD
    | (0, i) :: σ, hf, hB, h =>
      simp only [schedFG, itemB, Bool.and_eq_true, decide_eq_true_eq, bne_iff_ne] at hB
      obtain ⟨⟨⟨hin, _⟩, ⟨⟨hij, hw⟩, hr⟩, hfr⟩, hB'⟩ := hB
      obtain ⟨o, v, ho, hy, hK⟩ := h
      have hr' : i ∈ Region.ready md ops ls := by simpa using hr
      obtain ⟨hiA, hrl⟩ := s.ready_of ok hin hr'
      have hsj := Region.noSelect_spec hsel i o
      refine wpAnyHS_first ho (Region.noSelect_spec hsel) (fun c a d v w => (hQ c a d v w).1) hij (fun l w il hu hc => cls_of hw il hu hc) (fun l a w hL => hL.1) _ listed _ w s.inv
        (free_of s ok hin ho hfr) hrl (puts_yields ok β ho hin hiA (fun cs b => hsj cs b ho) a0 hy D s.da) (.inl (up_iff.2 s.cw)) ?_
      rw [puts_put ok β ho hin hiA v a0 D s.da]
      exact ih σ D β _ w0 w _ _ (by simp only [List.length_cons] at hf; omega) (s.step (Nat.lt_trans hin hj0) hiA hrl (Below.refl _ _)) hB' hb hK
    | (2, i) :: σ, hf, hB, h =>
      simp only [schedFG, itemB, Bool.and_eq_true, decide_eq_true_eq, bne_iff_ne] at hB
      obtain ⟨⟨⟨hin, _⟩, ⟨hij, hr⟩, hfr⟩, hB'⟩ := hB
      obtain ⟨o, v, ho, hy, hK⟩ := h
      have hr' : i ∈ Region.ready md ops ls := by simpa using hr
      obtain ⟨hiA, hrl⟩ := s.ready_of ok hin hr'
      have hsj := Region.noSelect_spec hsel i o
      refine wpAnyHS_first ho (Region.noSelect_spec hsel) (fun c a d v w => (hQ c a d v w).1) hij (fun _ _ _ _ _ => trivial) (fun l a w hL => hL.1) _ listed _ w s.inv
        (free_of s ok hin ho hfr) hrl (puts_yields ok β ho hin hiA (fun cs b => hsj cs b ho) a0 hy D s.da) (.inl (up_iff.2 s.cw)) ?_
      rw [puts_put ok β ho hin hiA v a0 D s.da]
      exact ih σ D β _ w0 w _ _ (by simp only [List.length_cons] at hf; omega) (s.step (Nat.lt_trans hin hj0) hiA hrl (Below.refl _ _)) hB' hb hK
    | (1, i) :: σ, hf, hB, h =>
      simp only [schedFG, itemB, Bool.and_eq_true, decide_eq_true_eq, bne_iff_ne] at hB
      obtain ⟨⟨⟨hin, _⟩, hij, hr⟩, hB'⟩ := hB
      obtain ⟨hiA, hrl⟩ := s.ready_of ok hin (by rw [hr]; simp : i ∈ Region.ready md ops ls)
      refine ⟨fun h0 => (by rw [h0] at hrl; cases hrl), fun j hj => ?_⟩
      rcases s.ready hj with ⟨h1, h2⟩ | ⟨_, h2⟩
      · exact allocs j h1 h2
      · have hji : j = i := by rw [hr] at h2; simpa using h2
        subst hji
        obtain ⟨_, o, ho, _⟩ := mem_ready.1 hrl
        have hsj := Region.noSelect_spec hsel j o
        refine wpOp_mono (fun a' w' h' => ?_) (wpOp_at_puts ok β ho hin hiA (fun cs b => hsj cs b ho) hQ D s.da (h w hb))
        obtain ⟨a1, rfl, hb1, hK⟩ := h'
        have s' := s.step (Nat.lt_trans hin hj0) hiA hrl hb1
        exact ⟨.inl (up_iff.2 s'.cw), ih σ D β a1 w' w' _ _ (by simp only [List.length_cons] at hf; omega) s' hB' (Below.refl _ _) hK⟩
    | (k + 3, i) :: σ, hf, hB, h =>
      simp only [schedFG, Bool.and_eq_true] at hB
      obtain ⟨⟨⟨_, hk⟩, _⟩, _⟩ := hB
      simp at hk


theorem wpFG_mono {T T' : Act → World → Prop} (h : ∀ a w, T a w → T' a w) : ∀ (σ : List (Nat × Nat)) (a : Act) (w : World), wpFG P ops W Q T σ a w → wpFG P ops W Q T' σ a w
  | [], _, _, hh => h _ _ hh
  | (0, _) :: σ, _, _, ⟨o, v, h1, h2, h3⟩ => ⟨o, v, h1, h2, wpFG_mono h σ _ _ h3⟩
  | (2, _) :: σ, _, _, ⟨o, v, h1, h2, h3⟩ => ⟨o, v, h1, h2, wpFG_mono h σ _ _ h3⟩
  | (1, _) :: σ, _, _, hh => fun w1 hb => wpOp_mono (fun _ _ h' => ⟨h'.1, wpFG_mono h σ _ _ h'.2⟩) (hh w1 hb)
  | (_ + 3, _) :: σ, _, _, hh => fun w1 hb => wpOp_mono (fun _ _ h' => ⟨h'.1, wpFG_mono h σ _ _ h'.2⟩) (hh w1 hb)

/-- THE LAW: new variables A, and several stores. -/
theorem wp_region_FG {id : Nat} {a : Act} {w : World} {l : List Oper} (j0 : Nat) (A : List Nat) (z : Nat → Obj) (σ τ : List (Nat × Nat)) (hm : P.follows .mixedOrders = true)
    (hB : (Region.noSelect l.toArray && decide (σ.length + A.length + τ.length = l.length) && decide (j0 < l.length) && floatB l.toArray j0 A && (A.all fun i => Region.waitsFor .any l.toArray j0 i) &&
      schedFG .any l.toArray j0 l.length τ σ ((List.range l.length).map (fun i => A.contains i)).toArray) = true)
    (hQ : ∀ c a d v w, Q (.panic c) (Act.put a d v) w ↔ Q (.panic c) a w)
    (hAl : ∀ i ∈ A, ∀ oi, l[i]? = some oi → ∀ ρ w, (execOp ρ oi).run P w = .ok (.value (ptrTo w.heap.size)) (w.alloc (z i)))
    (h : wpFG P l.toArray w Q (fun a w' => ∀ w1, Below w'.heap.size w' w1 → Below w.heap.size w w1 → ∀ β, Good w z β A w1 → wpG P l.toArray (fun w' => ∃ u : UpTo w.heap.size w, w' = u.w) Q τ (puts l.toArray β A a) w1) σ a w.drew) : (Code.region id l.toArray true).wp P Q a w := by
  simp only [Bool.and_eq_true, decide_eq_true_eq] at hB
  obtain ⟨⟨⟨⟨⟨hsel, hlen⟩, hj⟩, hfl⟩, hw⟩, hs⟩ := hB
  have ok := floatB_ok hfl
  have hls : ∀ j, ((List.range l.length).map (fun i => A.contains i)).toArray.getD j false = true ↔ j ∈ A ∧ j < l.length := by
    intro j
    by_cases hj : j < l.length
    · simp [hj]
    · simp [hj]
  have s0 : FlSt .any l.toArray l.toArray.size A w z ((List.range l.length).map (fun i => A.contains i)).toArray (Array.replicate l.toArray.size false) [] (fun _ => 0) w.drew := by
    refine ⟨by simp, by simp, fun j hj => (by rw [getD_replicate_false] at hj; cases hj), fun j hj hA => absurd ((hls j).1 hj).1 hA, fun j _ => ?_, fun i hi => ?_, HeadInv.none, List.nodup_nil, fun i hi => (by cases hi), (Below.refl _ _).drew, fun i hi => (by cases hi), fun i hi => (by cases hi)⟩
    · rw [getD_replicate_false]; simp
    · obtain ⟨_, oi, hoi, _⟩ := ok.at_ i hi
      have := (Array.getElem?_eq_some_iff.1 hoi).1
      exact (hls i).2 ⟨hi, by simpa using this⟩
  have H := floatG_main (τ := τ) hsel hQ (by simpa using hj) ok (fun i hi => List.all_eq_true.1 hw i hi) (fun i hi oi ho => hAl i hi oi (by simpa using ho)) _ σ [] (fun _ => 0) a w.drew w.drew _ _ rfl s0 hs (Below.refl _ _) h
  refine wp_region_any hm ?_
  have := wpAny_of_HS (g := 0) (fun listed a' w' hL => (⟨hL.1, hL.2⟩ : wpAny P .any l.toArray Q 0 listed a' w')) _ _ _ _ H
  have e : σ.length + (A.length - ([] : List Nat).length) + τ.length + 0 = l.toArray.size := by simp; omega
  rw [e] at this
  exact this

/-- two new variables, several stores -/
theorem wp_region_FG2 {id : Nat} {a : Act} {w : World} {l : List Oper} (j0 i j : Nat) (σ τ : List (Nat × Nat)) {o o' : Oper} {d d' : Tmp} {t t' : TypeId} {c c' : Array Value} (hm : P.follows .mixedOrders = true)
    (hB : (Region.noSelect l.toArray && decide (σ.length + [i, j].length + τ.length = l.length) && decide (j0 < l.length) && floatB l.toArray j0 [i, j] && ([i, j].all fun i => Region.waitsFor .any l.toArray j0 i) &&
      schedFG .any l.toArray j0 l.length τ σ ((List.range l.length).map (fun k => [i, j].contains k)).toArray) = true)
    (hQ : ∀ c a d v w, Q (.panic c) (Act.put a d v) w ↔ Q (.panic c) a w) (ho : l[i]? = some o) (hop : o.op = .alloc t) (hd : o.dst = some d) (hr : AllocRuns P t c)
    (ho' : l[j]? = some o') (hop' : o'.op = .alloc t') (hd' : o'.dst = some d') (hr' : AllocRuns P t' c') (hij : (i == j) = false)
    (h : wpFG P l.toArray w Q (fun a w' => ∀ w1, Below w'.heap.size w' w1 → Below w.heap.size w w1 → ∀ b b', b ≠ b' → w.heap.size ≤ b → w1.heap[b]? = some (.cells c t) → w.heap.size ≤ b' → w1.heap[b']? = some (.cells c' t') →
      wpG P l.toArray (fun w' => ∃ u : UpTo w.heap.size w, w' = u.w) Q τ ((a.put (some d') (ptrTo b')).put (some d) (ptrTo b)) w1) σ a w.drew) :
    (Code.region id l.toArray true).wp P Q a w := by
  have hij : i ≠ j := by simpa using hij
  refine wp_region_FG j0 [i, j] (fun k => if k = i then .cells c t else .cells c' t') σ τ hm hB hQ (fun k hk oi hoi ρ w => ?_) (wpFG_mono (fun a w' h' w1 hb1 hb2 β hg => ?_) _ _ _ h)
  · rcases List.mem_cons.1 hk with rfl | hk
    · obtain rfl : o = oi := Option.some.inj (ho.symm.trans hoi)
      rw [if_pos rfl]; exact alloc_of hr o hop ρ w
    · obtain rfl : k = j := by simpa using hk
      obtain rfl : o' = oi := Option.some.inj (ho'.symm.trans hoi)
      rw [if_neg (Ne.symm hij)]; exact alloc_of hr' o' hop' ρ w
  · have h1 := hg.1 i (by simp)
    have h2 := hg.1 j (by simp)
    simp only [if_pos] at h1
    simp only [if_neg (Ne.symm hij)] at h2
    have e : puts l.toArray β [i, j] a = (a.put (some d') (ptrTo (β j))).put (some d) (ptrTo (β i)) := by
      show (a.put (dstOf l.toArray j) _).put (dstOf l.toArray i) _ = _
      simp [dstOf, ho, hd, ho', hd']
    rw [e]
    exact h' w1 hb1 hb2 _ _ (hg.2 i (by simp) j (by simp) hij) h1.1 h1.2 h2.1 h2.2

/-- a class of worlds that every step keeps: the reads may come at any time -/
theorem wp_region_E {id : Nat} {a : Act} {w : World} {l : List Oper} {C : World → Prop} (σ : List (Nat × Nat)) (hm : P.follows .mixedOrders = true)
    (hB : (Region.noSelect l.toArray && decide (σ.length = l.length) && schedG .any l.toArray l.length σ (Array.replicate l.length false)) = true)
    (hQ : ∀ c a d v w, Q (.panic c) (Act.put a d v) w ↔ Q (.panic c) a w) (hC : C w.drew)
    (h : wpG P l.toArray C Q σ a w.drew) : (Code.region id l.toArray true).wp P Q a w := by
  simp only [Bool.and_eq_true, decide_eq_true_eq] at hB
  obtain ⟨⟨hsel, hlen⟩, hs⟩ := hB
  have hrep : (Array.replicate l.length false) = Array.replicate l.toArray.size false := by simp
  rw [hrep] at hs
  have H := wpAnyHS_of_G (P := P) hsel (fun c a d v w => (hQ c a d v w).1) σ _ a w.drew HeadInv.none hs (.inl hC) h
  refine wp_region_any hm ?_
  have := wpAny_of_HS (g := 0) (fun listed a' w' hL => (⟨hL.1, hL.2⟩ : wpAny P .any l.toArray Q 0 listed a' w')) _ _ _ _ H
  have e : σ.length + 0 = l.toArray.size := by simp [hlen]
  rw [e] at this
  exact this
end
end Stay
end Go.Proofs.Ytlcbomjdbdgbmaa

