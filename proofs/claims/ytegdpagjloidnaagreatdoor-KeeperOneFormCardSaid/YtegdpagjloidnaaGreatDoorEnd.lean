/- A session's request is answered: cache.End. -/
import Derived.Test.YtegdpagjloidnaaGreatDoorBegin
import Derived.Lib.SliceRun
namespace Go.Proofs.YtegdpagjloidnaaGreatDoor
open Go.RowKit Go.Conc

set_option maxHeartbeats 1000000 in
theorem less_int (a b : Int) (w : World) : Calls Tryz.prog 308 #[.int .i64 a, .int .i64 b] w fun e w' => e = .returned (.bool (decide (a < b))) ∧ w = w' := by
  go_enter Tryz.func308, Tryz.ntmps308
  go_wp2
  all_goals go_ret
  all_goals exact ⟨by simp_all, rfl⟩

set_option maxHeartbeats 1000000 in
theorem bsearch1 (w : World) (g c : Nat) (hc : w.cell? ⟨g, 0, none⟩ = some (.int .i64 1)) : Calls Tryz.prog 255 #[.slice (some ⟨g, 0, none⟩) 1 c, .int .i64 1] w fun e w' => e = .returned (.tuple #[.int .i64 0, .bool true]) ∧ w = w' := by
  go_enter Tryz.func255, Tryz.ntmps255
  go_wp2_with fail
  refine wp_loop_rounds 2 ?_; rw [rounds_succ]
  go_wp2_with (go_at_call 308; go_loud (refine (less_int _ _ _).mono ?_; rintro e w1 ⟨rfl, rfl⟩))
  rw [rounds_succ]
  go_wp2_with (first
    | (go_at_call 309; go_in)
    | fail)
  go_ret2
  exact ⟨rfl, rfl⟩

theorem run_append_empty (W : World) (g c c' : Nat) (a : Addr) (ty : TypeId) : (Builtin.append_ #[67, 67] ty #[.slice (some ⟨g, 0, none⟩) 0 c, .slice (some a) 0 c']).run Tryz.prog W = .ok (.slice (some ⟨g, 0, none⟩) 0 c) W := by
  obtain ⟨i0, hi, hz0, hz1, hz2⟩ := info_parts infoI64'
  have hl := run_loadCells_list (P := Tryz.prog) W a [] (by simp)
  simp only [List.length_nil] at hl
  simp [Builtin.append_, run_underlying Tryz.underlying67, sizeOf, typeInfo, hi, Builtin.lenOf, Builtin.firstCells, storeCells, hl]

theorem addr_add0 (b o j : Nat) : (⟨b, o, none⟩ : Addr).add j = ⟨b, o + j, none⟩ := addr_add' b o j
set_option maxHeartbeats 1000000 in
theorem delete1 (w : World) (g c : Nat) (hc : w.cell? ⟨g, 0, none⟩ = some (.int .i64 1)) (hf : w.frozen? ⟨g, 0, none⟩ = false) (h1 : 1 ≤ c) : Calls Tryz.prog 256 #[.slice (some ⟨g, 0, none⟩) 1 c, .int .i64 0, .int .i64 1] w fun e w' => e = .returned (.slice (some ⟨g, 0, none⟩) 0 c) ∧ w' = (w.setCell ⟨g, 0, none⟩ (.int .i64 0)).drew := by
  have ha := fun a c' ty => run_append_empty w.drew g c c' a ty
  have hcl : ∀ ty, (Builtin.clear_ #[67] ty #[.slice (some ⟨g, 0, none⟩) 1 c]).run Tryz.prog w.drew = .ok (.tuple #[]) ((w.setCell ⟨g, 0, none⟩ (.int .i64 0)).drew) := fun ty => by
    have := Lib.run_clear_slice (P := Tryz.prog) w.drew 67 3 ty (.int .i64 0) Tryz.underlying67 (run_zero_of infoI64') rfl rfl g 0 1 c (by omega) (by
      intro j hj
      obtain rfl : j = 0 := by omega
      show (w.cell? ⟨g, 0, none⟩).isSome = true
      rw [hc]; rfl) (by
      intro j hj
      obtain rfl : j = 0 := by omega
      exact hf)
    rw [this]; rfl
  by_cases hc1 : c = 1
  all_goals
    first | subst hc1 | have hc2 : 1 < c := by omega
    go_enter Tryz.func256, Tryz.ntmps256
    go_wp2_with fail
    have HA := Lib.hid ha
    clear ha
    go_region_law (refine step_of_append rfl (.tmp 22) (.tmp 25) 67 67 rfl _ _ (by rfl) (by rfl) (HA.out _ _ _) ?_)
    all_goals
      go_wp2_with fail
      go_ret
      exact ⟨rfl, rfl⟩
end Go.Proofs.YtegdpagjloidnaaGreatDoor
