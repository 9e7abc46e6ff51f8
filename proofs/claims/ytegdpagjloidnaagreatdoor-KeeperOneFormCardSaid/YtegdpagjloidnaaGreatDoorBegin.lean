/- A session's first request. -/
import Derived.Test.YtegdpagjloidnaaGreatDoorSess
import Derived.Test.YtegdpagjloidnaaGreatDoorApp0
namespace Go.Proofs.YtegdpagjloidnaaGreatDoor
open Go.RowKit Go.Conc

theorem infoI64' : (Tryz.prog.info? 3).map (fun i => (i.zero, i.size, i.bytes)) = some (some (.int .i64 0), 1, 8) := by kernel_rfl
/-- 'append(s, x)' of whole numbers: the literal is a block of one cell. -/
theorem run_app_int {W : World} {base k S : Nat} {v x : Value} {xs : List Value} (hown : W.ownsRow base 3 1 v k xs) (hS : W.heap[S]? = some (.cells #[x] 3)) (hx : x.oneCell' = true) (hk : k ≤ 1000000) (hbase : base ≤ W.heap.size) :
    ∃ v' W', (Builtin.append_ #[67, 67] 67 #[v, .slice (some ⟨S, 0, none⟩) 1 1]).run Tryz.prog W = .ok v' W' ∧ W'.ownsRow base 3 1 v' (k + 1) (xs ++ [x]) ∧ W.grownBy W' v.ownBlock := by
  obtain ⟨i0, hi, hz0, hz1, hz2⟩ := info_parts infoI64'
  obtain ⟨v', W', hr, ho, hg, _⟩ := run_append_own (P := Tryz.prog) W base 67 67 3 i0 (.int .i64 0) 1 8 Tryz.underlying67 hi hz0 hz1 hz2 rfl (by decide) v k _ hown ⟨S, 0, none⟩ 1 1 [x] (by simp) (by
    intro j u hj
    have hj0 : j = 0 := by have := (List.getElem?_eq_some_iff.1 hj).1; simpa using this
    subst hj0
    simp at hj
    subst hj
    rw [addr_add', row_cells hS]; rfl) (by intro u hu; simp at hu; subst hu; exact hx) (by unfold maxLen; omega) (by omega) hbase
  exact ⟨v', W', hr, ho, hg⟩

theorem sess0 : sessionCells[0]? = some (.int .i64 0) := by unfold sessionCells; kernel_rfl
theorem sess1 : sessionCells[1]? = some (.slice none 0 0) := by unfold sessionCells; kernel_rfl
theorem sess2 : sessionCells[2]? = some (.int .i64 0) := by unfold sessionCells; kernel_rfl
theorem sess3 : sessionCells[3]? = some (.int .i64 0) := by unfold sessionCells; kernel_rfl
theorem sess4 : sessionCells[4]? = some (.int .i64 0) := by unfold sessionCells; kernel_rfl
theorem sess5 : sessionCells[5]? = some (.int .i64 0) := by unfold sessionCells; kernel_rfl
theorem sess66 : sessionCells[66]? = some (.int .i64 0) := by unfold sessionCells; kernel_rfl
theorem sess_size : sessionCells.size = 67 := by unfold sessionCells; kernel_rfl

theorem results_row_tmp2 {P : Program} {fn : Func} {p u v : Tmp} {ty : TypeId} (h : fn.results = #[.cell p ty, .tmp u, .tmp v]) (tmps : Array Value) (w : World) (g : Nat) (t : TypeId) (cs : Array Value) (fr : Nat × Nat) (d : TypeDesc)
    (hp : tmps.getD p undef = .pointer (some ⟨g, 0, none⟩)) (hg : w.heap[g]? = some (.cells cs t fr))
    (hu : P.underlying ty = some d) (hd : (match d with | .struct _ | .array _ _ => true | _ => false) = true) (hi : (P.info? ty).map (·.size) = some cs.size) :
    (results fn tmps).run P w = .ok (.tuple #[.agg cs, tmps.getD u undef, tmps.getD v undef]) w := by
  have hp' : tmps[p]?.getD undef = .pointer (some ⟨g, 0, none⟩) := by simpa using hp
  simp [results, h, hp', asAddr, run_loadVar_row w g t ty cs fr d hg hu hd hi]

set_option maxHeartbeats 4000000 in
set_option maxRecDepth 100000 in
theorem cache_begin (w : World) (ca sa : Nat) (me sn : Int) (rest : Int × Int × Int) (h : CS w ca sa me sn rest) (hs : At w 0 sa (.cells sessionCells 185)) :
    Calls Tryz.prog 71 #[.pointer (some ⟨ca, 0, none⟩), .agg #[.int .i64 sn, .int .i64 1]] w fun e w' => e = .returned (.tuple #[.agg #[.int .i64 0, .int .i64 0, .int .i64 0, .int .i64 0], .bool false, .int .i64 0]) ∧
      ∃ g c, At w' 0 sa (.cells ((sessionCells.setIfInBounds 0 (.int .i64 1)).setIfInBounds 1 (.slice (some ⟨g, 0, none⟩) 1 c)) 185) ∧ w'.ownsRow w.heap.size 3 1 (.slice (some ⟨g, 0, none⟩) 1 c) 1 [.int .i64 1] ∧ Only (· = sa) w w' := by
  have c0 : w.cell? ⟨sa, 0, none⟩ = some (.int .i64 0) := by rw [row_cells hs.2]; exact sess0
  have c1 : w.cell? ⟨sa, 1, none⟩ = some (.slice none 0 0) := by rw [row_cells hs.2]; exact sess1
  have f := row_free hs.2
  have z := hs.lt
  have HS := Lib.hid (And.intro h hs)
  clear h hs
  go_enter Tryz.func71, Tryz.ntmps71
  go_wp2_with fail
  refine (cache_of _ ca sa me sn rest (HS.out.1.of_at fun ha _ => (ha.alloc _).alloc _)).mono ?_
  rintro e w1 ⟨rfl, rfl⟩
  go_wp2_with fail
  go_region
  go_wp2_with fail
  go_region
  go_wp2_with fail
  refine wp_world (fun W => At W 0 sa (.cells (sessionCells.setIfInBounds 0 (.int .i64 1)) 185) ∧ At W 0 w.heap.size (.cells #[.int .i64 sn, .int .i64 1] 23) ∧ At W 0 (w.heap.size + 1) (.cells #[.int .i64 0, .int .i64 0, .int .i64 0, .int .i64 0] 182) ∧ Only (· = sa) w W ∧ W.heap.size = w.heap.size + 2) ?_ ?_
  · refine ⟨((HS.out.2.setCell 0 (.int .i64 1)).alloc _).alloc _, (At.new' (Nat.zero_le _) (by rw [size_setCell]) _).alloc _, At.new' (Nat.zero_le _) (by rw [size_alloc', size_setCell]) _, ((((Only.refl (· = sa) w).setCell (Or.inl rfl) _ _ _).alloc _).alloc _).drew.drew.drew, ?_⟩
    show (((w.setCell _ _).alloc _).alloc _).heap.size = _
    rw [size_alloc', size_alloc', size_setCell]
  intro W hW
  clear c0 c1 f
  have c0 : W.cell? ⟨sa, 0, none⟩ = some (.int .i64 1) := by rw [row_cells hW.1.2]; simp [sess_size]
  have c1 : W.cell? ⟨sa, 1, none⟩ = some (.slice none 0 0) := by rw [row_cells hW.1.2, Array.getElem?_setIfInBounds_ne (by decide)]; exact sess1
  have f := row_free hW.1.2
  have q1 := row_cells hW.2.1.2
  have q2 := row_cells hW.2.2.1.2
  have f2 := row_free hW.2.2.1.2
  have zW := hW.2.2.2.2
  have z1 : sa < W.heap.size := hW.1.lt
  obtain ⟨v9, W9, e9, o9, g9⟩ := run_app_int (W := W.drew.alloc (.cells #[.int .i64 1] 3)) (base := w.heap.size) (v := .slice none 0 0) (k := 0) (xs := []) (S := W.heap.size) (x := .int .i64 1) (World.ownsRow_nil _ _ _ _) (own_new W.drew _ _ rfl) rfl (by omega) (by rw [size_alloc']; show w.heap.size ≤ W.heap.size + 1; omega)
  obtain ⟨g, c, rfl⟩ := Joins.ownsRow_form o9 (by omega)
  have O9 : Only (· = sa) w W9 := ((hW.2.2.2.1.drew).alloc _).grown g9 (by intro k hk; simp [Value.ownBlock] at hk)
  have O9' : Only (fun _ => False) W W9 := (((Only.refl _ W).drew).alloc _).grown g9 (by intro k hk; simp [Value.ownBlock] at hk)
  have A9 := hW.1.only O9' (fun h => h)
  have B9 := hW.2.1.only O9' (fun h => h)
  have C9 := hW.2.2.1.only O9' (fun h => h)
  have q91 := row_cells B9.2
  have q92 := row_cells C9.2
  have f92 := row_free C9.2
  have c91 : W9.cell? ⟨sa, 1, none⟩ = some (.slice none 0 0) := by rw [row_cells A9.2, Array.getElem?_setIfInBounds_ne (by decide)]; exact sess1
  have f9 := row_free A9.2
  have HE := Lib.hid e9
  have H9 := Lib.hid (And.intro A9 (And.intro o9 (And.intro O9 (And.intro C9 z1))))
  clear e9 A9 B9 C9 o9 O9 O9' g9 hW zW
  go_region_law (refine step_of_append rfl (.tmp 56) (.tmp 59) 67 67 rfl _ _ (by rfl) (by rfl) HE.out ?_)
  go_wp2_with fail
  all_goals
    obtain ⟨A9, o9, O9, C9, zz⟩ := H9.out
    have C2 := C9.setCell_ne (b := sa) (by omega) 1 none (.slice (some ⟨g, 0, none⟩) (0 + 1) c)
    have hF := (((C2.setCell 0 (.int .i64 0)).setCell 1 (.int .i64 0)).setCell 2 (.int .i64 0)).setCell 3 (.int .i64 0)
    have hS := ((((A9.setCell 1 (.slice (some ⟨g, 0, none⟩) (0 + 1) c)).setCell_ne (b := w.heap.size + 1) (by omega) 0 none (.int .i64 0)).setCell_ne (b := w.heap.size + 1) (by omega) 1 none (.int .i64 0)).setCell_ne (b := w.heap.size + 1) (by omega) 2 none (.int .i64 0)).setCell_ne (b := w.heap.size + 1) (by omega) 3 none (.int .i64 0)
    have o2 := own4 (own_set_kind o9 A9.2 (by decide) (o := 1) (u := .slice (some ⟨g, 0, none⟩) (0 + 1) c)) C2 (by decide) (.int .i64 0) (.int .i64 0) (.int .i64 0) (.int .i64 0)
    have F2 := ((((O9.setCell (Or.inl rfl) 1 none (.slice (some ⟨g, 0, none⟩) (0 + 1) c)).setCell (k := w.heap.size + 1) (Or.inr (by omega)) 0 none (.int .i64 0)).setCell (k := w.heap.size + 1) (Or.inr (by omega)) 1 none (.int .i64 0)).setCell (k := w.heap.size + 1) (Or.inr (by omega)) 2 none (.int .i64 0)).setCell (k := w.heap.size + 1) (Or.inr (by omega)) 3 none (.int .i64 0)
    exact bodyPost_ret (results_row_tmp2 rfl _ _ (w.heap.size + 1) _ _ (0, 0) _ rfl hF.2 Tryz.underlying182 rfl (by kernel_rfl)) rfl ⟨rfl, g, c, hS, o2, F2⟩
end Go.Proofs.YtegdpagjloidnaaGreatDoor
