/- keeper.Open on a disk of zeros. -/
import Derived.Test.YtegdpagjloidnaaGreatDoorRepNew
import Derived.Test.YtegdpagjloidnaaGreatDoorJournal
namespace Go.Proofs.YtegdpagjloidnaaGreatDoor
open Go.RowKit Go.Conc

theorem jrow {w : World} {lo j d : Nat} {rv : Value} {next : Int} {dead : Bool} (h : JAt w lo j d rv next dead) :
    (∀ i, w.cell? ⟨j, i, none⟩ = #[Value.pointer (some ⟨d, 0, none⟩), rv, .int .i64 next, .bool dead][i]?) ∧ (∀ i, w.frozen? ⟨j, i, none⟩ = false) := ⟨row_cells h.2, row_free h.2⟩

set_option maxHeartbeats 400000 in
theorem journal_len0 (j d lo : Nat) (next : Int) (w : World) (hj : JAt w lo j d (.slice none 0 0) next false) :
    Calls Tryz.prog 34 #[.pointer (some ⟨j, 0, none⟩)] w fun e w' => e = .returned (.int .i64 0) ∧ w = w' := by
  obtain ⟨q, _⟩ := jrow hj
  clear hj
  go_enter Tryz.func34, Tryz.ntmps34
  go_wp2
  go_ret
  exact ⟨rfl, rfl⟩

set_option maxHeartbeats 400000 in
theorem journal_dead (j d lo : Nat) (rv : Value) (next : Int) (dead : Bool) (w : World) (hj : JAt w lo j d rv next dead) :
    Calls Tryz.prog 37 #[.pointer (some ⟨j, 0, none⟩)] w fun e w' => e = .returned (.bool dead) ∧ w = w' := by
  obtain ⟨q, _⟩ := jrow hj
  clear hj
  go_enter Tryz.func37, Tryz.ntmps37
  go_wp2
  go_ret
  exact ⟨rfl, rfl⟩

/-- A keeper: its replica at B + 7, its journal at j. -/
def KAt (w : World) (lo k B j : Nat) : Prop := At w lo k (.cells #[.pointer (some ⟨B + 7, 0, none⟩), .pointer (some ⟨j, 0, none⟩)] 94)

theorem RepAt.keep {w w' : World} {B : Nat} {c : Cfg} {me : Int} (h : RepAt w B c me) (hs : Same B w w') : RepAt w' B c me := by
  obtain ⟨nm, ca, vw, gs, ⟨wh, h1, ⟨l, m1, m2, m3⟩, h3, h4, h5, h6, h7⟩, h8, h9, h10, h11⟩ := h
  have hs' : Same (B + 9) w w' := hs.mono (by omega)
  exact ⟨nm, ca, vw, gs, ⟨wh, h1.keep hs, ⟨l, m1.keep hs, m2, fun p hp => by obtain ⟨a, e1, e2⟩ := m3 p hp; exact ⟨a, e1, e2.keep hs'⟩⟩, h3.keep hs, h4.keep hs, h5.keep hs, h6.keep hs, h7.keep hs'⟩, h8.keep hs', h9.keep hs', h10.keep hs', h11.keep hs'⟩

theorem size_alloc (w : World) (o : Obj) : (w.alloc o).heap.size = w.heap.size + 1 := by simp
theorem RepAt.size {w : World} {B : Nat} {c : Cfg} {me : Int} (h : RepAt w B c me) : B + 10 ≤ w.heap.size := by
  obtain ⟨nm, ca, vw, gs, ⟨wh, _, _, _, _, _, _, ⟨m, h7, _⟩⟩, _⟩ := h
  have := h7.1
  have := h7.lt
  omega

set_option maxHeartbeats 1000000 in
set_option maxRecDepth 100000 in
theorem keeper_open (c : Cfg) (me : Int) (d n lo : Nat) (w : World) (h : c.Right) (h1 : 0 ≤ me) (h2 : me < c.rep) (hd : DiskAt w lo d n) (hn : 1 ≤ n) :
    Calls Tryz.prog 18 #[.agg c.vals, .int .i64 me, .pointer (some ⟨d, 0, none⟩)] w fun e w' => ∃ k j, e = .returned (.tuple #[.pointer (some ⟨k, 0, none⟩), .slice none 0 0, .int .i64 0]) ∧
      KAt w' w.heap.size k (w.heap.size + 1) j ∧ RepAt w' (w.heap.size + 1) c me ∧ JAt w' w.heap.size j d (.slice none 0 0) 0 false ∧ w.heap.size + 10 ≤ j ∧ w.heap.size + 10 ≤ k ∧ Below w.heap.size w w' := by
  have HV : Hid (c.vals = c.vals) := rfl
  unfold Cfg.vals
  go_enter Tryz.func18, Tryz.ntmps18
  go_wp2_with (first
    | (go_at_call 32; refine (replica_new c me _ h h1 h2).mono ?_; rintro e w1 ⟨rfl, hrep, hb1⟩)
    | (go_at_call 33; refine (journal_open d n lo _ ((hd.keep (Same.alloc _ _ _)).keep (Same.below hb1 (Nat.le_refl _))) hn).mono ?_; rintro e w2 ⟨rfl, hj, hb2⟩)
    | (go_at_call 34; refine (journal_len0 w1.heap.size d _ 0 _ (At.alloc hj _)).mono ?_; rintro e w3 ⟨rfl, rfl⟩))
  refine wp_loop_rounds 1 ?_; rw [rounds_succ]
  go_wp2
  go_ret3
  have hz := hrep.size
  have hz1 := hb1.size
  have hz2 := hb2.size
  simp only [size_alloc] at hrep hz hz1 hb1
  have s1 : Same (w.heap.size + 1) w1 (w2.alloc (Obj.cells #[Value.pointer (some { block := w.heap.size + 1 + 7, off := 0 }), Value.pointer (some { block := w1.heap.size, off := 0 })] 94)) :=
    (Same.below hb2 (Nat.le_refl _)).trans (Same.alloc _ _ _)
  refine ⟨w2.heap.size, w1.heap.size, rfl, ⟨by omega, heap_alloc_at _ _⟩, hrep.keep s1, ?_, by omega, by omega, ?_⟩
  · exact (At.mono hj (by omega)).alloc _
  · exact ((((Below.refl _ _).alloc (Nat.le_refl _) _).trans (hb1.mono (by omega))).trans (hb2.mono (by omega))).alloc (by omega) _
end Go.Proofs.YtegdpagjloidnaaGreatDoor
