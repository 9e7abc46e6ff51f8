/- The name "k" is good; a look at it is a good op. -/
import Derived.Test.YtegdpagjloidnaaGreatDoorDrop
namespace Go.Proofs.YtegdpagjloidnaaGreatDoor
open Go.RowKit Go.Conc

def kname : ByteArray := ⟨#[107]⟩
set_option maxHeartbeats 1000000 in
theorem good_fn (c : Int) (w : World) (h : c = 107) : Calls Tryz.prog 254 #[.int .i32 c] w fun e w' => e = .returned (.bool false) ∧ w = w' := by
  subst h
  go_enter Tryz.func254, Tryz.ntmps254
  go_wp2
  go_ret
  exact ⟨rfl, rfl⟩

set_option maxHeartbeats 1000000 in
theorem index_k (w : World) : Calls Tryz.prog 307 #[.string ⟨#[107]⟩, .func (.func 254) #[] #[], .bool true] w fun e w' => e = .returned (.int .i64 (-1)) ∧ Below w.heap.size w w' := by
  have n0 : ∀ ty, (Instr.next (.pointer (some ⟨w.heap.size, 0, none⟩)) true ty).run Tryz.prog (w.iter ⟨#[107]⟩ 0) = .ok (.tuple #[.bool true, .int .i64 0, .int .i32 107]) (w.iter ⟨#[107]⟩ 1) := fun ty => run_next_ascii w ⟨#[107]⟩ 0 ty (by decide) (by decide)
  have n1 : ∀ ty, (Instr.next (.pointer (some ⟨w.heap.size, 0, none⟩)) true ty).run Tryz.prog (w.iter ⟨#[107]⟩ 1) = .ok (.tuple #[.bool false]) (w.iter ⟨#[107]⟩ 1) := fun ty => run_next_end w ⟨#[107]⟩ 1 ty (by decide)
  go_enter Tryz.func307, Tryz.ntmps307
  go_wp2_with fail
  refine wp_loop_rounds 2 ?_; rw [rounds_succ]
  go_wp2_with (go_at_call 254; go_loud (refine (good_fn _ _ rfl).mono ?_; rintro e w1 ⟨rfl, rfl⟩))
  rw [rounds_succ]
  go_wp2_with fail
  go_ret
  exact ⟨rfl, (Below.refl _ _).alloc (Nat.le_refl _) _⟩

set_option maxHeartbeats 1000000 in
theorem names_good_k (w : World) : Calls Tryz.prog 185 #[.string ⟨#[107]⟩] w fun e w' => e = .returned (.bool true) ∧ Below w.heap.size w w' := by
  go_enter Tryz.func185, Tryz.ntmps185
  go_wp2_with (first
    | (go_at_call 307; go_loud (refine (index_k _).mono ?_; rintro e w1 ⟨rfl, hb⟩))
    | go_in)
  go_ret
  exact ⟨rfl, hb⟩

set_option maxHeartbeats 1000000 in
theorem good_look (w : World) : Calls Tryz.prog 113 #[.agg #[.int .i64 11, .string ⟨#[107]⟩, .int .i64 0, .int .i64 0]] w fun e w' => e = .returned (.bool true) ∧ Below w.heap.size w w' := by
  go_enter Tryz.func113, Tryz.ntmps113
  go_wp2_with (go_at_call 185; go_loud (refine (names_good_k _).mono ?_; rintro e w1 ⟨rfl, hb⟩; obtain ⟨hc, hf⟩ := bcell hb; have hz := hb.size))
  go_ret
  exact ⟨rfl, ((Below.refl _ _).alloc (Nat.le_refl _) _).trans (hb.mono (by simp))⟩
end Go.Proofs.YtegdpagjloidnaaGreatDoor
