/- A session keeps its first reply; cache.End. -/
import Derived.Test.YtegdpagjloidnaaGreatDoorEnd
import Derived.StillTailTactics
namespace Go.Proofs.YtegdpagjloidnaaGreatDoor
open Go.RowKit Go.Conc

set_option maxHeartbeats 1000000 in
theorem bsearchF0 (w : World) (p : Option Addr) (c : Nat) (id : Int) (fv : Value) : Calls Tryz.prog 182 #[.slice p 0 c, .int .i64 id, fv] w fun e w' => e = .returned (.tuple #[.int .i64 0, .bool false]) ∧ w = w' := by
  go_enter Tryz.func182, Tryz.ntmps182
  go_wp2_with fail
  refine wp_loop_rounds 1 ?_; rw [rounds_succ]
  go_wp2_with fail
  go_ret2
  exact ⟨rfl, rfl⟩

set_option maxHeartbeats 1000000 in
theorem find0 (w : World) (sa : Nat) (id : Int) (h : w.cell? ⟨sa, 66, none⟩ = some (.int .i64 0)) : Calls Tryz.prog 112 #[.pointer (some ⟨sa, 0, none⟩), .int .i64 id] w fun e w' => e = .returned (.tuple #[.int .i64 0, .bool false]) ∧ w' = w.drew := by
  go_enter Tryz.func112, Tryz.ntmps112
  go_wp2_with fail
  go_region_with (go_at_call 182; go_loud (refine (bsearchF0 _ _ _ _ _).mono ?_; rintro e w1 ⟨rfl, rfl⟩))
  all_goals go_wp2_with fail
  all_goals go_ret2
  all_goals exact ⟨rfl, rfl⟩

theorem infoRep : (Tryz.prog.info? 182).map (fun i => (i.zero, i.size, i.bytes)) = some (some (.agg #[.int .i64 0, .int .i64 0, .int .i64 0, .int .i64 0]), 4, 32) := by kernel_rfl
theorem run_copy_empty (W : World) (a b : Addr) (c c' : Nat) (ty : TypeId) : (Builtin.copy_ #[59, 59] ty #[.slice (some a) 0 c, .slice (some b) 0 c']).run Tryz.prog W = .ok (.int .i64 0) W := by
  obtain ⟨i0, hi, hz0, hz1, hz2⟩ := info_parts infoRep
  have hl := run_loadCells_list (P := Tryz.prog) W b [] (by simp)
  simp only [List.length_nil] at hl
  simp [Builtin.copy_, run_underlying Tryz.underlying59, sizeOf, typeInfo, hi, Builtin.lenOf, Builtin.firstCells, storeCells, hl, goInt]

set_option maxHeartbeats 4000000 in
set_option maxRecDepth 100000 in
theorem keep0 (w : World) (sa : Nat) (ses id er val room : Int) (sc : Array Value) (hs : At w 0 sa (.cells sc 185)) (h66 : sc[66]? = some (.int .i64 0)) (h2 : sc[2]? = some (.int .i64 0)) (h3 : sc[3]? = some (.int .i64 0)) (h4 : sc[4]? = some (.int .i64 0)) (h5 : sc[5]? = some (.int .i64 0)) (hr : 1 ≤ room) :
    Calls Tryz.prog 257 #[.pointer (some ⟨sa, 0, none⟩), .agg #[.int .i64 ses, .int .i64 id, .int .i64 er, .int .i64 val], .int .i64 room] w fun e w' => e = .returned (.tuple #[]) ∧ Only (· = sa) w w' := by
  have HS := Lib.hid (And.intro hs (And.intro h66 (And.intro h2 (And.intro h3 (And.intro h4 h5)))))
  have c66 : w.cell? ⟨sa, 66, none⟩ = some (.int .i64 0) := by rw [row_cells hs.2]; exact h66
  have z := hs.lt
  clear hs h66 h2 h3 h4 h5
  go_enter Tryz.func257, Tryz.ntmps257
  go_wp2_with fail
  refine (find0 _ sa _ (Lib.cell?_alloc_some _ c66)).mono ?_
  rintro e w1 ⟨rfl, rfl⟩
  have hr0 : 0 < room := by omega
  go_wp2_with fail
  refine wp_world (fun W => At W 0 sa (.cells sc 185) ∧ At W 0 w.heap.size (.cells #[.int .i64 ses, .int .i64 id, .int .i64 er, .int .i64 val] 182) ∧ Only (· = sa) w W) ?_ ?_
  · exact ⟨HS.out.1.alloc _, At.new' (Nat.zero_le _) rfl _, ((Only.refl (· = sa) w).alloc _).drew⟩
  intro W hW
  clear c66
  have c66 : W.cell? ⟨sa, 66, none⟩ = some (.int .i64 0) := by rw [row_cells hW.1.2]; exact HS.out.2.1
  have c2 : W.cell? ⟨sa, 2, none⟩ = some (.int .i64 0) := by rw [row_cells hW.1.2]; exact HS.out.2.2.1
  have c3 : W.cell? ⟨sa, 3, none⟩ = some (.int .i64 0) := by rw [row_cells hW.1.2]; exact HS.out.2.2.2.1
  have c4 : W.cell? ⟨sa, 4, none⟩ = some (.int .i64 0) := by rw [row_cells hW.1.2]; exact HS.out.2.2.2.2.1
  have c5 : W.cell? ⟨sa, 5, none⟩ = some (.int .i64 0) := by rw [row_cells hW.1.2]; exact HS.out.2.2.2.2.2
  have f := row_free hW.1.2
  have q := row_cells hW.2.1.2
  have HW := Lib.hid hW
  have hne : ¬ w.heap.size = sa := by omega
  clear hW
  have hcp := fun a b c c' ty => run_copy_empty W.drew a b c c' ty
  have hw1 : IntKind.i64.wrap 1 = 1 := by kernel_rfl
  go_still_tail 20, (by kernel_rfl)
  change wpList _ _ _ _ _ W.drew
  go_wp2_with fail
  go_region
  go_wp2_with fail
  exact bodyPost_ret (results_none rfl _ _ _) rfl ⟨rfl, (((((HW.out.2.2.setCell (Or.inl rfl) _ _ _).setCell (Or.inl rfl) _ _ _).setCell (Or.inl rfl) _ _ _).setCell (Or.inl rfl) _ _ _).setCell (Or.inl rfl) _ _ _).drew.drew⟩

theorem cell_alloc_d3 {w : World} {o : Obj} {a : Addr} {v : Value} (h : w.cell? a = some v) : (w.alloc o).drew.drew.drew.cell? a = some v := Lib.cell?_alloc_some o h
theorem frozen_alloc_d3 {w : World} {o : Obj} {g i : Nat} (hg : g < w.heap.size) (h : w.frozen? ⟨g, i, none⟩ = false) : (w.alloc o).drew.drew.drew.frozen? ⟨g, i, none⟩ = false := by
  show (w.alloc o).frozen? ⟨g, i, none⟩ = false
  have := (bcell ((Below.refl w.heap.size w).alloc (Nat.le_refl _) o)).2 g i hg
  rw [this]; exact h

set_option maxHeartbeats 4000000 in
set_option maxRecDepth 100000 in
theorem cache_end (w : World) (ca sa g c : Nat) (me sn er val : Int) (rest : Int × Int × Int) (sc gs : Array Value) (h : CS w ca sa me sn rest) (hs : At w 0 sa (.cells sc 185)) (h0 : sc[0]? = some (.int .i64 1)) (h1 : sc[1]? = some (.slice (some ⟨g, 0, none⟩) 1 c)) (h66 : sc[66]? = some (.int .i64 0)) (h2 : sc[2]? = some (.int .i64 0)) (h3 : sc[3]? = some (.int .i64 0)) (h4 : sc[4]? = some (.int .i64 0)) (h5 : sc[5]? = some (.int .i64 0))
    (hg : At w 0 g (.cells gs 3)) (hg0 : gs[0]? = some (.int .i64 1)) (hc : 1 ≤ c) (hr : 1 ≤ rest.2.2) :
    Calls Tryz.prog 186 #[.pointer (some ⟨ca, 0, none⟩), .agg #[.int .i64 sn, .int .i64 1, .int .i64 er, .int .i64 val]] w fun e w' => e = .returned (.int .i64 0) ∧ Only (fun k => k = sa ∨ k = g) w w' := by
  have c0 : w.cell? ⟨sa, 0, none⟩ = some (.int .i64 1) := by rw [row_cells hs.2]; exact h0
  have c1 : w.cell? ⟨sa, 1, none⟩ = some (.slice (some ⟨g, 0, none⟩) 1 c) := by rw [row_cells hs.2]; exact h1
  have f := row_free hs.2
  have cg : w.cell? ⟨g, 0, none⟩ = some (.int .i64 1) := by rw [row_cells hg.2]; exact hg0
  have fg : w.frozen? ⟨g, 0, none⟩ = false := row_free hg.2 0
  have z := hs.lt
  have zg := hg.lt
  have hne : ¬ g = sa := by rintro rfl; have := hg.2; rw [hs.2] at this; simp at this
  have hne' : ¬ sa = g := fun h => hne h.symm
  obtain ⟨m, es, cl, l, j, k1, -, -, -⟩ := h.ex
  have qc := row_cells k1.2
  have zc := k1.lt
  have hcs : ¬ ca = sa := by rintro rfl; have := k1.2; rw [hs.2] at this; simp at this
  have HS := Lib.hid (And.intro h (And.intro hs (And.intro hg (And.intro k1 (And.intro h66 (And.intro h2 (And.intro h3 (And.intro h4 h5))))))))
  clear h hs hg k1 h0 h1 h66 h2 h3 h4 h5
  go_enter Tryz.func186, Tryz.ntmps186
  go_wp2_with fail
  refine (cache_of _ ca sa me sn rest (HS.out.1.of_at fun ha _ => ha.alloc _)).mono ?_
  rintro e w1 ⟨rfl, rfl⟩
  go_wp2_with fail
  go_region
  go_wp2_with fail
  go_region_with (go_at_call 255; go_loud (refine (bsearch1 _ g c (cell_alloc_d3 cg)).mono ?_; rintro e w1 ⟨rfl, rfl⟩))
  all_goals
    go_wp2_with (go_at_call 256; go_loud (refine (delete1 _ g c (cell_alloc_d3 cg) (frozen_alloc_d3 zg fg) hc).mono ?_; rintro e w1 ⟨rfl, rfl⟩))
    refine wp_world (fun W => At W 0 sa (.cells (sc.setIfInBounds 1 (.slice (some ⟨g, 0, none⟩) 0 c)) 185) ∧ At W 0 w.heap.size (.cells #[.int .i64 sn, .int .i64 1, .int .i64 er, .int .i64 val] 182) ∧ At W 0 ca (.cells #[.int .i64 me, .int .i64 rest.1, .int .i64 rest.2.1, .int .i64 rest.2.2, .map (some m)] 179) ∧ Only (fun k => k = sa ∨ k = g) w W) ?_ ?_
    · refine ⟨((HS.out.2.1.setCell_ne hne' 0 none (.int .i64 0)).setCell 1 _).alloc _, At.new' (Nat.zero_le _) (by rw [size_setCell, size_setCell]) _, ((HS.out.2.2.2.1.setCell_ne ?_ 0 none (.int .i64 0)).setCell_ne hcs _ _ _).alloc _, (((((Only.refl (fun k => k = sa ∨ k = g) w).setCell (Or.inl (Or.inr rfl)) _ _ _).setCell (Or.inl (Or.inl rfl)) _ _ _).alloc _)).drew.drew.drew.drew⟩
      rintro rfl
      have := HS.out.2.2.1.2
      rw [HS.out.2.2.2.1.2] at this
      simp at this
    intro W hW
    clear c0 c1 f cg fg qc zc
    have q2 := row_cells hW.2.1.2
    have qc := row_cells hW.2.2.1.2
    have HW := Lib.hid hW
    clear hW
    obtain ⟨-, -, -, -, h66, h2, h3, h4, h5⟩ := HS.out
    have HK := Lib.hid (And.intro h66 (And.intro h2 (And.intro h3 (And.intro h4 h5))))
    clear h66 h2 h3 h4 h5
    go_still_tail 6, (by kernel_rfl)
    change wpList _ _ _ _ _ W.drew
    go_wp2_with fail
    refine (keep0 _ sa sn 1 er val rest.2.2 _ (by exact HW.out.1) (by rw [Array.getElem?_setIfInBounds_ne (by decide)]; exact HK.out.1) (by rw [Array.getElem?_setIfInBounds_ne (by decide)]; exact HK.out.2.1) (by rw [Array.getElem?_setIfInBounds_ne (by decide)]; exact HK.out.2.2.1) (by rw [Array.getElem?_setIfInBounds_ne (by decide)]; exact HK.out.2.2.2.1) (by rw [Array.getElem?_setIfInBounds_ne (by decide)]; exact HK.out.2.2.2.2) hr).mono ?_
    rintro e w1 ⟨rfl, ho⟩
    go_wp2_with fail
    go_ret
    exact ⟨rfl, HW.out.2.2.2.drew.trans (ho.mono fun k _ hk => Or.inl hk)⟩
end Go.Proofs.YtegdpagjloidnaaGreatDoor
