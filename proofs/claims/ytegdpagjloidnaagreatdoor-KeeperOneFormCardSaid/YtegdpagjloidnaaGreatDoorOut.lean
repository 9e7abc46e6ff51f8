/- A link from which nothing is to go: link.Out. -/
import Derived.Test.YtegdpagjloidnaaGreatDoorPeers
namespace Go.Proofs.YtegdpagjloidnaaGreatDoor
open Go.RowKit Go.Conc

theorem link_cells {w : World} {lo a : Nat} {me peer win res : Int} (h : LinkAt w lo a me peer win res) : ∃ c m, (∀ i, w.cell? ⟨a, i, none⟩ = (linkCells me peer win res c m)[i]?) ∧ (∀ i, w.frozen? ⟨a, i, none⟩ = false) ∧ w.heap[c]? = some (.chan win.toNat #[] false 0 0 false) ∧ At w lo a (.cells (linkCells me peer win res c m) 172) := by
  obtain ⟨c, m, h1, h2, h3⟩ := h
  exact ⟨c, m, row_cells h1.2, row_free h1.2, h2.2, h1⟩

set_option maxHeartbeats 1000000 in
set_option maxRecDepth 100000 in
theorem link_out0 (w : World) (lo a : Nat) (me peer win res : Int) (h : LinkAt w lo a me peer win res) :
    Calls Tryz.prog 200 #[.pointer (some ⟨a, 0, none⟩)] w fun e w' => e = .returned (.slice none 0 0) ∧ Only (fun _ => False) w w' := by
  have HL := Lib.hid h
  obtain ⟨c, m, q, f, hch, hat⟩ := link_cells h
  have z := hat.lt
  have HC := Lib.hid hch
  unfold linkCells at q
  clear h hch hat
  refine calls_of_wpN Tryz.func200 rfl ?_
  simp only [Tryz.ntmps200, List.size_toArray, List.length_cons, List.length_nil, Nat.reduceAdd, Nat.reduceSub, Array.replicate_succ, Array.replicate_zero, List.push_toArray, List.append_toArray, List.nil_append, List.cons_append]
  refine wpN_seq (wpN_of_wp ?_)
  go_wp2_with fail
  refine wpN_seq (wpN_of_wp ?_)
  go_wp2_with fail
  refine wpN_seq (wpN_of_wp ?_)
  go_wp2_with fail
  refine wpN_seq (wpN_of_wp ?_)
  go_wp2_with fail
  refine wpN_seq (wpN_of_wp ?_)
  go_wp2_with fail
  refine wpN_seq (wpN_block ?_)
  refine wpN_loop (fun a' w' => a' = _ ∧ w' = w) (fun _ _ => 0) ⟨rfl, rfl⟩ ?_
  rintro a' w' ⟨rfl, rfl⟩
  refine wpN_block (wpN_seq ?_)
  refine wpN_seq (wpN_of_wp ?_)
  go_wp2_with fail
  refine wpN_seq ?_
  refine wpN_region_comm (o := _) (l := _) (fun b k cs hb => select_default (z := .agg #[.int .i64 0, .slice none 0 0]) rfl ?_ HC.out b k cs hb) ?_
  · go_simp
    rfl
  · go_wp2_with fail
    refine wpN_of_wp ?_
    go_wp2_with fail
    refine wpN_of_wp ?_
    go_wp2_with fail
    refine wpN_seq (wpN_of_wp ?_)
    go_wp2_with fail
    refine wpN_seq (wpN_of_wp ?_)
    go_wp2_with fail
    refine wpN_of_wp ?_
    go_wp2_with fail
    go_ret
    obtain ⟨c', m', -, -, -, hat⟩ := link_cells HL.out
    have h2 := (hat.setCell 10 (.bool false)).setCell 11 (.bool false)
    refine ⟨rfl, rfl, rfl, rfl, by rw [size_setCell, size_setCell]; exact Nat.le_refl _, fun k hk _ => ?_⟩
    by_cases hka : k = a
    · subst hka
      rw [h2.2, hat.2]; rfl
    · rw [Below.heap_setCell _ _ _ _ (by show k ≠ a; exact hka), Below.heap_setCell _ _ _ _ (by show k ≠ a; exact hka)]
end Go.Proofs.YtegdpagjloidnaaGreatDoor
