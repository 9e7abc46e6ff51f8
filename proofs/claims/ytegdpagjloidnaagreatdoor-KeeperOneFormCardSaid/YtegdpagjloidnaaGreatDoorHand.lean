/- Keeper.hand: a short frame; the example's look. -/
import Derived.Test.YtegdpagjloidnaaGreatDoorCall
import Derived.Test.YtegdpagjloidnaaGreatDoorSee3
namespace Go.Proofs.YtegdpagjloidnaaGreatDoor
open Go.RowKit Go.Conc

set_option maxHeartbeats 4000000 in
set_option maxRecDepth 100000 in
theorem hand_frame (w : World) (lo k B j : Nat) (c : Cfg) (me drops : Int) (nm ca vw gs : Option Addr) (ao : Option Addr) (n cap : Nat) (hk : KAt w lo k B j) (h : SeeAt w B c me nm ca vw gs drops) (hd : 0 ≤ drops) (hd1 : drops ≤ 1000000) (hn : n < 7) :
    Calls Tryz.prog 36 #[.pointer (some ⟨k, 0, none⟩), .agg #[.int .i64 3, .int .i64 0, .int .i64 0, .int .i64 0, .string ByteArray.empty, .int .i64 0, .int .i64 0, .slice ao n cap]] w fun e w' => e = .returned (.tuple #[.agg actsCells, .int .i64 10]) ∧ Drop1 B (drops + 1) w w' := by
  have HS := Lib.hid (And.intro h hk)
  have hB9 : B + 9 ≤ w.heap.size := by obtain ⟨wh, -, -, -, -, -, -, m, g, _⟩ := h; have := g.1; have := g.lt; omega
  have zk := hk.lt
  clear h hk
  go_enter Tryz.func36, Tryz.ntmps36
  go_wp2_with fail
  refine wp_world (fun W => Only (fun _ => False) w W ∧ At W 0 w.heap.size (.cells #[.int .i64 3, .int .i64 0, .int .i64 0, .int .i64 0, .string ByteArray.empty, .int .i64 0, .int .i64 0, .slice ao n cap] 34) ∧ At W 0 (w.heap.size + 1) (.cells actsCells 61) ∧ W.heap.size = w.heap.size + 2) ?_ ?_
  · exact ⟨((Only.refl _ w).alloc _).alloc _, (At.new' (Nat.zero_le _) rfl _).alloc _, At.new' (Nat.zero_le _) (by rw [size_alloc']) _, by rw [size_alloc', size_alloc']⟩
  intro W hW
  have qk := row_cells (HS.out.2.only hW.1 id).2
  have qi := row_cells hW.2.1.2
  have HW := Lib.hid hW
  have zz := Nat.le_of_eq hW.2.2.2.symm
  clear hW
  have CA := Lib.hid (replica_frame_short B c me drops nm ca vw gs ao n cap W.drew (HS.out.1.keep ⟨HW.out.1.size, fun k _ hk => HW.out.1.block k hk id⟩) hd hd1 hn)
  have hz1 : B + 8 ≤ w.heap.size + 1 := by omega
  unfold actsCells at CA HW
  go_region_with (go_at_call 54; refine CA.out.mono ?_; rintro e w3 ⟨rfl, hdr⟩; have b3 := At.keep (w := W.drew) (lo := B + 8) ⟨hz1, HW.out.2.2.1.2⟩ hdr.same; have q3 := row_cells b3.2; have f3 := row_free b3.2; have z3 := b3.lt; have HD := Lib.hid (And.intro hdr b3); clear hdr b3)
  all_goals
    go_wp2_with fail
    obtain ⟨hdr, b3⟩ := HD.out
    have hF := ((b3.setCell 0 (.slice none 0 0)).setCell 1 (.slice none 0 0)).setCell 2 (.slice none 0 0)
    refine bodyPost_ret (results_row_tmp rfl _ _ (w.heap.size + 1) _ _ (0, 0) _ rfl hF.2 Tryz.underlying61 rfl (by kernel_rfl)) rfl ⟨rfl, ?_⟩
    have hO := HW.out.1
    refine ⟨hdr.os.trans hO.os, hdr.tape.trans hO.tape, hdr.output.trans hO.output, ?_, fun k hk => ?_⟩
    · rw [size_setCell, size_setCell, size_setCell]; exact Nat.le_trans hO.size hdr.size
    · rw [Below.heap_setCell _ _ _ _ (by show k ≠ w.heap.size + 1; omega), Below.heap_setCell _ _ _ _ (by show k ≠ w.heap.size + 1; omega), Below.heap_setCell _ _ _ _ (by show k ≠ w.heap.size + 1; omega), hdr.block k (Nat.lt_of_lt_of_le hk hO.size)]
      show (W.setCell _ _).heap[k]? = _
      by_cases hkB : k = B + 7
      · subst hkB
        simp only [World.setCell, Array.getElem?_modify, if_true]
        rw [hO.block _ hk id]
      · rw [Below.heap_setCell _ _ _ _ (by show k ≠ B + 7; exact hkB), Below.heap_setCell _ _ _ _ (by show k ≠ B + 7; exact hkB)]
        exact hO.block k hk id

set_option maxHeartbeats 4000000 in
set_option maxRecDepth 100000 in
theorem hand_call (w : World) (lo k B j lk la ot ct ca sa tm vw : Nat) (rc : Array Value) (en : MapEntry) (clock : Nat) (win res n : Int) (rest : Int × Int × Int) (hk : KAt w lo k B j) (h : Pre w (B + 7) lk la ot ct ca sa tm vw rc en clock win res n rest) :
    Calls Tryz.prog 36 #[.pointer (some ⟨k, 0, none⟩), .agg #[.int .i64 1, .int .i64 0, .int .i64 1, .int .i64 11, .string ⟨#[107]⟩, .int .i64 0, .int .i64 0, .slice none 0 0]] w fun e w' => ∃ g2 c2, e = .returned (.tuple #[.agg #[.slice none 0 0, .slice (some ⟨g2, 0, none⟩) 1 c2, .slice none 0 0], .int .i64 0]) ∧ At w' 0 (B + 7) (.cells rc 113) ∧ Only (· = sa) w w' := by
  have HS := Lib.hid (And.intro h hk)
  have zk := hk.lt
  have zs := h.s.lt
  have zR := h.idle.one.r.lt
  clear h hk
  go_enter Tryz.func36, Tryz.ntmps36
  go_wp2_with fail
  refine wp_world (fun W => Only (fun _ => False) w W ∧ At W 0 w.heap.size (.cells #[.int .i64 1, .int .i64 0, .int .i64 1, .int .i64 11, .string ⟨#[107]⟩, .int .i64 0, .int .i64 0, .slice none 0 0] 34) ∧ At W 0 (w.heap.size + 1) (.cells #[.slice none 0 0, .slice none 0 0, .slice none 0 0] 61) ∧ W.heap.size = w.heap.size + 2) ?_ ?_
  · exact ⟨((Only.refl _ w).alloc _).alloc _, (At.new' (Nat.zero_le _) rfl _).alloc _, At.new' (Nat.zero_le _) (by rw [size_alloc']) _, by rw [size_alloc', size_alloc']⟩
  intro W hW
  have qk := row_cells (HS.out.2.only hW.1 id).2
  have qi := row_cells hW.2.1.2
  have HW := Lib.hid hW
  have zz := Nat.le_of_eq hW.2.2.2.symm
  clear hW
  have CA := Lib.hid (replica_call W.drew (B + 7) lk la ot ct ca sa tm vw rc en clock win res n rest (HS.out.1.only (w' := W.drew) HW.out.1.drew))
  have hz1 : w.heap.size + 1 ≠ sa := by omega
  go_region_with (go_at_call 52; refine CA.out.mono ?_; rintro e w3 ⟨g2, c2, rfl, A3, O3⟩; have b3 := At.only (w := W.drew) HW.out.2.2.1 O3 hz1; have q3 := row_cells b3.2; have f3 := row_free b3.2; have z3 := b3.lt; have HD := Lib.hid (And.intro A3 (And.intro O3 b3)); clear A3 O3 b3)
  all_goals
    go_wp2_with fail
    obtain ⟨A3, O3, b3⟩ := HD.out
    have hF := ((b3.setCell 0 (.slice none 0 0)).setCell 1 (.slice (some ⟨g2, 0, none⟩) 1 c2)).setCell 2 (.slice none 0 0)
    have hA := ((A3.setCell_ne (b := w.heap.size + 1) (by omega) 0 none (.slice none 0 0)).setCell_ne (b := w.heap.size + 1) (by omega) 1 none (.slice (some ⟨g2, 0, none⟩) 1 c2)).setCell_ne (b := w.heap.size + 1) (by omega) 2 none (.slice none 0 0)
    have o1 : Only (· = sa) w w3 := ((HW.out.1.mono (q := (· = sa)) fun _ _ h => h.elim).drew).trans O3
    have hO := ((o1.setCell (k := w.heap.size + 1) (Or.inr (by omega)) 0 none (.slice none 0 0)).setCell (k := w.heap.size + 1) (Or.inr (by omega)) 1 none (.slice (some ⟨g2, 0, none⟩) 1 c2)).setCell (k := w.heap.size + 1) (Or.inr (by omega)) 2 none (.slice none 0 0)
    exact bodyPost_ret (results_row_tmp rfl _ _ (w.heap.size + 1) _ _ (0, 0) _ rfl hF.2 Tryz.underlying61 rfl (by kernel_rfl)) rfl ⟨g2, c2, rfl, hA, hO⟩
end Go.Proofs.YtegdpagjloidnaaGreatDoor
