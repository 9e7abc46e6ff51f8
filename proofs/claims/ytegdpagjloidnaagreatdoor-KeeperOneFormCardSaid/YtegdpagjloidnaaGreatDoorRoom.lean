/- Journal.Room. -/
import Derived.Test.YtegdpagjloidnaaGreatDoorWrite
import Derived.BigQuiet
import Derived.Defers
namespace Go.Proofs.YtegdpagjloidnaaGreatDoor
open Go.RowKit Go.Conc

theorem disk_sectors (w : World) (d sb n : Nat) (c0 : w.cell? ⟨d, 0, none⟩ = some (.slice (some ⟨sb, 0, none⟩) n n)) :
    Calls Tryz.prog 91 #[.pointer (some ⟨d, 0, none⟩)] w fun e w' => e = .returned (.int .i64 n) ∧ w = w' := by
  go_enter Tryz.func91, Tryz.ntmps91
  go_wp2
  go_ret
  exact ⟨rfl, rfl⟩

set_option maxHeartbeats 1000000 in
theorem journal_room (w : World) (lo lo' j d sb : Nat) (rv : Value) (next : Int) (ps : Array Value) (wr : Int) (tr : Array Value) (hj : JAt w lo j d rv next false) (hd : DiskSt w lo' d sb ps wr tr) (h0 : 0 ≤ next) (h1 : next ≤ 1000000) (hn : ps.size ≤ 65536) :
    Calls Tryz.prog 57 #[.pointer (some ⟨j, 0, none⟩)] w fun e w' => e = .returned (.int .i64 ((ps.size : Int) - next)) ∧ w' = w.drew := by
  obtain ⟨q, _⟩ := jrow hj
  obtain ⟨c0, _, _, _⟩ := disk_row hd.1.2
  have C0 := Lib.hid c0
  have HW := Lib.hid (show IntKind.i64.wrap ((ps.size : Int) - next) = (ps.size : Int) - next by rw [IntKind.wrap_i64]; omega)
  clear hj hd c0
  go_enter Tryz.func57, Tryz.ntmps57
  go_wp2_with fail
  go_region_with (go_at_call 91; refine (disk_sectors _ d sb ps.size (by exact C0.out)).mono ?_; rintro e w1 ⟨rfl, rfl⟩)
  all_goals go_wp2
  all_goals go_ret
  all_goals exact ⟨congrArg (fun n => Ending.returned (Value.int .i64 n)) HW.out, rfl⟩

set_option maxHeartbeats 1000000 in
/-- Append's deferred function, where there was no ErrDown. -/
theorem append_defer (w : World) (u : FrameMode) (r x : Nat) (e : Int) (he : e ≠ 200) (c0 : w.cell? ⟨r, 0, none⟩ = some (.int .i64 e)) :
    CallsD Tryz.prog 56 #[.pointer (some ⟨r, 0, none⟩), .pointer (some ⟨x, 0, none⟩)] u w fun e u' w' => u' = u ∧ (e = .returned (.tuple #[]) ∧ w = w') := by
  have he' : (e == 200) = false := by simp [he]
  clear he
  go_enter_d Tryz.func56, Tryz.ntmps56
  go_wp2
  go_end0
  exact ⟨rfl, rfl⟩
end Go.Proofs.YtegdpagjloidnaaGreatDoor
