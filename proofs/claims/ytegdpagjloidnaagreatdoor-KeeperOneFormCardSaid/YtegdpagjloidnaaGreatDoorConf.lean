/- The config, and whether it is right. -/
import Derived.Test.YtegdpagjloidnaaGreatDoorMaps
namespace Go.Proofs.YtegdpagjloidnaaGreatDoor
open Go.RowKit Go.Conc

structure Cfg where
  (rep win res tmo que cac cnt hol ses bag : Int)
def Cfg.vals (c : Cfg) : Array Value := #[.int .i64 c.rep, .int .i64 c.win, .int .i64 c.res, .int .i64 c.tmo, .int .i64 c.que, .int .i64 c.cac, .int .i64 c.cnt, .int .i64 c.hol, .int .i64 c.ses, .int .i64 c.bag]
structure Cfg.Right (c : Cfg) : Prop where
  rep0 : 2 ≤ c.rep
  rep1 : c.rep ≤ 16
  win0 : 1 ≤ c.win
  win1 : c.win ≤ 16
  res0 : 1 ≤ c.res
  res1 : c.res ≤ 1000
  tmo0 : 1 ≤ c.tmo
  tmo1 : c.tmo ≤ 1000
  que0 : 1 ≤ c.que
  que1 : c.que ≤ 32
  cac0 : 1 ≤ c.cac
  cac1 : c.cac ≤ 16
  cnt0 : 1 ≤ c.cnt
  cnt1 : c.cnt ≤ 4
  hol0 : 0 ≤ c.hol
  hol1 : c.hol ≤ 16
  ses0 : 1 ≤ c.ses
  ses1 : c.ses ≤ 64
  bag0 : 1 ≤ c.bag
  bag1 : c.bag ≤ 1024

set_option maxHeartbeats 1000000 in
set_option maxRecDepth 100000 in
theorem right_yes (c : Cfg) (w : World) (h : c.Right) : Calls Tryz.prog 42 #[.agg c.vals] w fun e w' => e = .returned (.bool true) ∧ w' = w.alloc (.cells c.vals 53) := by
  obtain ⟨a1, a2, a3, a4, a5, a6, a7, a8, a9, b1, b2, b3, b4, b5, b6, b7, b8, b9, c1, c2⟩ := h
  unfold Cfg.vals
  go_enter Tryz.func42, Tryz.ntmps42
  go_wp2
  go_ret
  exact ⟨rfl, rfl⟩

end Go.Proofs.YtegdpagjloidnaaGreatDoor
