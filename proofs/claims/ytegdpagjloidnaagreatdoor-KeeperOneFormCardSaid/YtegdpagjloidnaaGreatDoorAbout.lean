/- views.About where nothing is known; a session's small functions. -/
import Derived.Test.YtegdpagjloidnaaGreatDoorGood
namespace Go.Proofs.YtegdpagjloidnaaGreatDoor
open Go.RowKit Go.Conc

set_option maxHeartbeats 1000000 in
theorem views_about0 (a lo : Nat) (me n : Int) (s : ByteArray) (w : World) (h : ViewsAt w lo a me n) :
    Calls Tryz.prog 63 #[.pointer (some ⟨a, 0, none⟩), .string s] w fun e w' => e = .returned (.tuple #[.int .i64 0, .bool false]) ∧ Below w.heap.size w w' := by
  obtain ⟨m, b, h1, h2, h3⟩ := h
  have q := row_cells h1.2
  have hm := h3.2
  have zm := h3.lt
  have hr := run_range_map (P := Tryz.prog) (t := 188) Tryz.underlying188 hm
  have hn := fun ty => run_next_none (P := Tryz.prog) (w := w.alloc (.mapIter (some m) 0 #[] 0)) (it := w.heap.size) (b := m) (s := 0) (l := 0) (c := 0) (heap_alloc_at w _) (by rw [heap_alloc_lt _ _ zm]; exact hm) ty
  clear h1 h2 h3 hm
  go_enter Tryz.func63, Tryz.ntmps63
  go_wp2_with fail
  refine wp_loop_rounds 1 ?_; rw [rounds_succ]
  go_wp2_with fail
  go_ret2
  exact ⟨rfl, (Below.refl _ _).alloc (Nat.le_refl _) _⟩
end Go.Proofs.YtegdpagjloidnaaGreatDoor
