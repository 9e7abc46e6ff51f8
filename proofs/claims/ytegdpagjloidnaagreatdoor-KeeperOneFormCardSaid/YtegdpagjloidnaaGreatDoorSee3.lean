/- Keeper.See, Keeper.Down, Journal.Room, Disk.Sectors, Disk.Writes. -/
import Derived.Test.YtegdpagjloidnaaGreatDoorDrop
namespace Go.Proofs.YtegdpagjloidnaaGreatDoor
open Go.RowKit Go.Conc

theorem keeper_down (lo lo' k B j d : Nat) (rv : Value) (next : Int) (dead : Bool) (w : World) (hk : KAt w lo k B j) (hj : JAt w lo' j d rv next dead) :
    Calls Tryz.prog 19 #[.pointer (some ⟨k, 0, none⟩)] w fun e w' => e = .returned (.bool dead) ∧ w = w' := by
  have q := row_cells hk.2
  have HJ := Lib.hid hj
  clear hk hj
  go_enter Tryz.func19, Tryz.ntmps19
  go_wp2_with (go_at_call 37; refine (journal_dead j d lo' rv next dead _ HJ.out).mono ?_; rintro e w1 ⟨rfl, rfl⟩)
  go_ret
  exact ⟨rfl, rfl⟩

set_option maxHeartbeats 1000000 in
set_option maxRecDepth 100000 in
theorem keeper_see (lo lo' k B j d : Nat) (rv : Value) (next : Int) (c : Cfg) (me drops : Int) (nm ca vw gs : Option Addr) (w : World) (hk : KAt w lo k B j) (hj : JAt w lo' j d rv next false) (h : SeeAt w B c me nm ca vw gs drops) (hc : c.Right) :
    Calls Tryz.prog 21 #[.pointer (some ⟨k, 0, none⟩)] w fun e w' => ∃ o u nx, e = .returned (.agg #[.int .i64 0, .slice none 0 0, o, u, nx, .slice none 0 0, .int .i64 drops]) ∧ w'.ownsRow (w.heap.size + 3) 160 1 o c.rep.toNat (List.replicate c.rep.toNat (.slice none 0 0)) ∧
      w'.ownsRow (w.heap.size + 3) 161 1 u c.rep.toNat (List.replicate c.rep.toNat (.slice none 0 0)) ∧ w'.ownsRow (w.heap.size + 3) 3 1 nx c.rep.toNat (nexts me c.rep.toNat) ∧ Below w.heap.size w w' := by
  have q := row_cells hk.2
  have z := hk.lt
  have HA := Lib.hid (And.intro hk (And.intro hj h))
  clear hk hj h
  have hr := hc.rep0
  go_enter Tryz.func21, Tryz.ntmps21
  go_wp2_with (first
    | (go_at_call 19; refine (keeper_down lo lo' k B j d rv next false _ (HA.out.1.keep (Same.alloc _ _ _)) (HA.out.2.1.keep (Same.alloc _ _ _))).mono ?_; rintro e w1 ⟨rfl, rfl⟩)
    | (go_at_call 39; refine (see0 B c me drops nm ca vw gs _ (HA.out.2.2.keep (Same.alloc _ _ _)) hc).mono ?_; rintro e w1 ⟨o, u, nx, rfl, ho, hu, hn, hb⟩; rw [size_alloc'] at ho hu hn hb; obtain ⟨g1, c1, rfl⟩ := Joins.ownsRow_form ho (by omega); obtain ⟨g2, c2, rfl⟩ := Joins.ownsRow_form hu (by omega); obtain ⟨g3, c3, rfl⟩ := Joins.ownsRow_form hn (by omega); have A1 := (At.new (Nat.le_refl w.heap.size) (Obj.cells #[.int .i64 0, .slice none 0 0, .slice none 0 0, .slice none 0 0, .slice none 0 0, .slice none 0 0, .int .i64 0] 70)).below hb (by omega); have q1 := row_cells A1.2; have f1 := row_free A1.2; have HO := Lib.hid (And.intro ho (And.intro hu (And.intro hn (And.intro hb A1)))); clear ho hu hn hb A1))
  have hF := ((((((HO.out.2.2.2.2.setCell 0 (.int .i64 0)).setCell 1 (.slice none 0 0)).setCell 2 (.slice (some ⟨g1, 0, none⟩) c.rep.toNat c1)).setCell 3 (.slice (some ⟨g2, 0, none⟩) c.rep.toNat c2)).setCell 4 (.slice (some ⟨g3, 0, none⟩) c.rep.toNat c3)).setCell 5 (.slice none 0 0)).setCell 6 (.int .i64 drops)
  have own : ∀ {e : TypeId} {v : Value} {n : Nat} {xs : List Value}, w1.ownsRow (w.heap.size + 3) e 1 v n xs → _ := fun h => own7 h (Y := w.heap.size) (by omega) (.int .i64 0) (.slice none 0 0) (.slice (some ⟨g1, 0, none⟩) c.rep.toNat c1) (.slice (some ⟨g2, 0, none⟩) c.rep.toNat c2) (.slice (some ⟨g3, 0, none⟩) c.rep.toNat c3) (.slice none 0 0) (.int .i64 drops)
  refine bodyPost_ret (results_cell_row rfl _ _ w.heap.size _ _ (0, 0) _ rfl hF.2 Tryz.underlying70 rfl (by kernel_rfl)) rfl ⟨_, _, _, rfl, own HO.out.1, own HO.out.2.1, own HO.out.2.2.1, ?_⟩
  refine (((((((((Below.refl w.heap.size w).alloc (Nat.le_refl _) _).trans (HO.out.2.2.2.1.mono (by omega))).setCell (by exact Nat.le_refl _) _).setCell (by exact Nat.le_refl _) _).setCell (by exact Nat.le_refl _) _).setCell (by exact Nat.le_refl _) _).setCell (by exact Nat.le_refl _) _).setCell (by exact Nat.le_refl _) _).setCell (by exact Nat.le_refl _) _
end Go.Proofs.YtegdpagjloidnaaGreatDoor
