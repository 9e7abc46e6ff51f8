/- The journal's small functions. -/
import Derived.Test.YtegdpagjloidnaaGreatDoorBytes
namespace Go.Proofs.YtegdpagjloidnaaGreatDoor
open Go.RowKit Go.Conc

def secs (n : Int) : Int := max 1 ((n + 495) / 496)
set_option maxHeartbeats 400000 in
theorem sectors_any (n : Int) (w : World) (h0 : 0 ≤ n) (h1 : n ≤ 1000000) :
    Calls Tryz.prog 51 #[.int .i64 n] w fun e w' => e = .returned (.int .i64 (secs n)) ∧ w = w' := by
  have H := Lib.hid (show secs n = secs n from rfl)
  by_cases h : 1 ≤ (n + 496 - 1) / 496
  all_goals
    go_enter Tryz.func51, Tryz.ntmps51
    go_wp2
    all_goals
      go_ret
      refine ⟨?_, rfl⟩
      show Ending.returned (Value.int .i64 _) = Ending.returned (Value.int .i64 _)
      congr 2
      show _ = secs n
      unfold secs
      simp only [Int.max_def]
      split <;> omega

/-- The mark's bytes. -/
def markBytes (k p n : Int) : List Int := [k % 256, k / 256 % 256, k / 65536, k / 16777216, p % 256, n % 256, n / 256 % 256, if p = secs n - 1 then 2 else 1]
theorem secs_bd (n : Int) (h0 : 0 ≤ n) (h1 : n ≤ 1000000) : 1 ≤ secs n ∧ secs n ≤ 3000 := by
  unfold secs; simp only [Int.max_def]; split <;> omega

set_option maxHeartbeats 400000 in
theorem mark_any (k p n : Int) (w : World) (h0 : 0 ≤ k) (h1 : k ≤ 1000000) (h4 : 0 ≤ n) (h5 : n ≤ 1000000) :
    Calls Tryz.prog 58 #[.int .i64 k, .int .i64 p, .int .i64 n] w fun e w' => ∃ v, e = .returned v ∧ w'.ownsRow w.heap.size 5 1 v 8 ((markBytes k p n).map (Value.int .u8)) ∧ Below w.heap.size w w' := by
  obtain ⟨b0, b1⟩ := secs_bd n h4 h5
  have HO := Lib.hid (owns_lit w #[Value.int IntKind.u8 (k % 256), Value.int IntKind.u8 (k / 256 % 256), Value.int IntKind.u8 (k / 65536), Value.int IntKind.u8 (k / 16777216), Value.int IntKind.u8 (p % 256), Value.int IntKind.u8 (n % 256), Value.int IntKind.u8 (n / 256 % 256)] 5 (by simp))
  cases d : (p == secs n - 1)
  all_goals
    have HP := Lib.hid d
    go_enter Tryz.func58, Tryz.ntmps58
    go_wp2_with (first
      | (go_at_call 51; refine (sectors_any n _ h4 h5).mono ?_; rintro e w1 ⟨rfl, rfl⟩)
      | (at_builtin; refine wpList_app_lit rfl _ _ rfl w.heap.size _ _ _ rfl HO.out _ 1 _ rfl (by simp) rfl (by simp [Value.oneCell']) (by simp) (by simp) ?_; intro v' w1 hown' hbel))
    go_ret
    refine ⟨v', rfl, ?_, ((Below.refl _ _).alloc (Nat.le_refl _) _).trans hbel⟩
    have hp := HP.out
    simp only [beq_iff_eq, beq_eq_false_iff_ne] at hp
    first | (rw [markBytes, if_pos hp]; simpa using hown') | (rw [markBytes, if_neg hp]; simpa using hown')

def JAt (w : World) (lo j d : Nat) (rv : Value) (next : Int) (dead : Bool) : Prop := At w lo j (.cells #[.pointer (some ⟨d, 0, none⟩), rv, .int .i64 next, .bool dead] 130)

theorem zeros_take_n (n : Nat) : (bytes0 n).toList.take (List.replicate n (0 : UInt8)).length = (List.replicate n (0 : UInt8)).map U8 := by
  simp [bytes0, U8]
theorem zeros_take : (bytes0 512).toList.take (List.replicate 512 (0 : UInt8)).length = (List.replicate 512 (0 : UInt8)).map U8 := zeros_take_n 512

set_option maxHeartbeats 1000000 in
set_option maxRecDepth 100000 in
theorem record_none (j d n lo : Nat) (w : World) (hj : JAt w lo j d (.slice none 0 0) 0 false) (hd : DiskAt w lo d n) (hn : 1 ≤ n) :
    Calls Tryz.prog 50 #[.pointer (some ⟨j, 0, none⟩)] w fun e w' => e = .returned (.tuple #[.slice none 0 0, .bool false]) ∧ Below w.heap.size w w' := by
  have q := row_cells hj.2
  have z := At.lt hj
  go_enter Tryz.func50, Tryz.ntmps50
  go_wp2
  refine wp_loop_rounds 1 ?_; rw [rounds_succ]
  go_wp2_with (go_at_call 51; refine (sectors_any 0 _ (by omega) (by omega)).mono ?_; rintro e w1 ⟨rfl, rfl⟩)
  go_region_with (go_at_call 68; refine (disk_read d n 0 lo w.drew hd (by omega)).mono ?_; rintro e w1 ⟨rfl, hrow, hb1⟩)
  all_goals
    have hrow' : w1.heap[w.heap.size]? = some (.cells (bytes0 512) 5) := hrow.2
    have hc5 : w1.cell? ⟨w.heap.size, 5, none⟩ = some (.int .u8 0) := by rw [row_cells hrow']; rfl
    have hc6 : w1.cell? ⟨w.heap.size, 6, none⟩ = some (.int .u8 0) := by rw [row_cells hrow']; rfl
    have HR := Lib.hid hrow'
    clear hrow' hrow
    go_wp2
    go_quiet (fail)
    go_wp2_with (first
      | (go_at_call 58; refine (mark_any 1 0 0 _ (by omega) (by omega) (by omega) (by omega)).mono ?_; rintro e w2 ⟨v, rfl, hown, hb2⟩; obtain ⟨g, cap, rfl, _, _⟩ := own_shape hown; have HB2 := Lib.hid hb2; clear hb2)
      | (go_at_call 69; refine (has_prefix w.heap.size 0 512 512 (List.replicate 512 0) [1, 0, 0, 0, 0, 0, 0, 2] 8 _ _ false _ (by rw [List.length_replicate]) rfl (reads_row (by rw [HB2.out.block w.heap.size (lt_of_heap HR.out)]; exact HR.out) _ 512 (by rw [List.length_replicate]; omega) zeros_take) (reads_own hown) (by omega) (by omega) (by rfl)).mono ?_; rintro e w3 ⟨rfl, rfl⟩))
    go_ret2
    have hz := hb1.size
    exact ⟨rfl, (Below.of_drew hb1).trans (Below.mono (Below.of_drewN HB2.out) hz)⟩

set_option maxHeartbeats 1000000 in
set_option maxRecDepth 100000 in
theorem journal_open (d n lo : Nat) (w : World) (hd : DiskAt w lo d n) (hn : 1 ≤ n) :
    Calls Tryz.prog 33 #[.pointer (some ⟨d, 0, none⟩)] w fun e w' => e = .returned (.tuple #[.pointer (some ⟨w.heap.size, 0, none⟩), .int .i64 0]) ∧ JAt w' w.heap.size w.heap.size d (.slice none 0 0) 0 false ∧ Below w.heap.size w w' := by
  go_enter Tryz.func33, Tryz.ntmps33
  go_wp2_with (go_at_call 49; refine (disk_isOn d n lo _ hd).mono ?_; rintro e w1 ⟨rfl, rfl⟩)
  refine wp_loop_rounds 1 ?_; rw [rounds_succ]
  go_wp2_with (go_at_call 50; refine (record_none w.heap.size d n 0 _ ⟨Nat.zero_le _, heap_alloc_at _ _⟩ ((hd.mono (Nat.zero_le _)).keep (Same.alloc _ _ _)) hn).mono ?_; rintro e w1 ⟨rfl, hb⟩)
  go_ret2
  have hz := hb.size
  simp at hz
  exact ⟨rfl, (At.below (At.new (Nat.le_refl _) _) hb (by simp)), ((Below.refl _ _).alloc (Nat.le_refl _) _).trans (hb.mono (by simp))⟩
end Go.Proofs.YtegdpagjloidnaaGreatDoor
