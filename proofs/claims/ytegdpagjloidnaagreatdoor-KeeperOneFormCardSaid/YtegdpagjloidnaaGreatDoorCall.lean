/- A look that comes first in its session: replica.Call. -/
import Derived.Test.YtegdpagjloidnaaGreatDoorDone
namespace Go.Proofs.YtegdpagjloidnaaGreatDoor
open Go.RowKit Go.Conc

/-- What the look of the example meets. -/
structure Pre (w : World) (R lk la ot ct ca sa tm vw : Nat) (rc : Array Value) (en : MapEntry) (clock : Nat) (win res n : Int) (rest : Int × Int × Int) : Prop where
  idle : Idle w R lk la ot ct rc en clock 0 1 win res
  r0 : rc[0]? = some (.int .i64 2)
  r8 : rc[8]? = some (.int .i64 4)
  r10 : rc[10]? = some (.int .i64 0)
  r15 : rc[15]? = some (.pointer (some ⟨ca, 0, none⟩))
  r16 : rc[16]? = some (.pointer (some ⟨vw, 0, none⟩))
  r19 : rc[19]? = some (.map (some tm))
  r22 : rc[22]? = some (.slice none 0 0)
  r23 : rc[23]? = some (.slice none 0 0)
  r24 : rc[24]? = some (.slice none 0 0)
  tm : At w 0 tm (.map #[] 0)
  cs : CS w ca sa 0 0 rest
  s : At w 0 sa (.cells sessionCells 185)
  vv : ViewsAt w 0 vw 0 n
  c2 : 1 ≤ rest.2.2
theorem Pre.only {w w' : World} {R lk la ot ct ca sa tm vw : Nat} {rc : Array Value} {en : MapEntry} {clock : Nat} {win res n : Int} {rest : Int × Int × Int} (h : Pre w R lk la ot ct ca sa tm vw rc en clock win res n rest) (ho : Only (fun _ => False) w w') : Pre w' R lk la ot ct ca sa tm vw rc en clock win res n rest :=
  { h with idle := h.idle.only ho, tm := h.tm.only ho id, cs := h.cs.of_at fun ha _ => ha.only ho id, s := h.s.only ho id, vv := h.vv.only ho }

theorem set_same {rc : Array Value} {i : Nat} {x : Value} (h : rc[i]? = some x) : rc.setIfInBounds i x = rc := by
  have hi : i < rc.size := (Array.getElem?_eq_some_iff.1 h).1
  apply Array.ext_getElem?
  intro j
  by_cases hj : i = j
  · subst hj; rw [h]; simp [hi]
  · rw [Array.getElem?_setIfInBounds_ne hj]
theorem set_back {rc : Array Value} {v n : Value} (h22 : rc[22]? = some n) (h23 : rc[23]? = some n) (h24 : rc[24]? = some n) : (((rc.setIfInBounds 23 v).setIfInBounds 22 n).setIfInBounds 23 n).setIfInBounds 24 n = rc := by
  have e1 : (rc.setIfInBounds 23 v).setIfInBounds 22 n = rc.setIfInBounds 23 v := set_same (by rw [Array.getElem?_setIfInBounds_ne (by decide)]; exact h22)
  have e2 : (rc.setIfInBounds 23 v).setIfInBounds 23 n = rc := by
    rw [Array.setIfInBounds_setIfInBounds]; exact set_same h23
  rw [e1, e2]; exact set_same h24
theorem At.ne_cells {w : World} {lo lo' i k : Nat} {o : Obj} {cs : Array Value} {T : TypeId} (h : At w lo i o) (hk : At w lo' k (.cells cs T)) (hne : ∀ cs', o ≠ .cells cs' T) : i ≠ k := by
  rintro rfl
  have := h.2
  rw [hk.2] at this
  simp only [Option.some.injEq] at this
  exact hne cs this.symm
/-- All but the session is as it was. -/
theorem Idle.far {w w' : World} {R lk la ot ct : Nat} {rc rc' : Array Value} {en : MapEntry} {clock : Nat} {me peer win res : Int} (h : Idle w R lk la ot ct rc en clock me peer win res) {p : Nat → Prop} (ho : Only p w w') (hp : ∀ {i : Nat} {o : Obj}, At w 0 i o → (∀ cs T, o = .cells cs T → T = 172) → ¬ p i) (hR : At w' 0 R (.cells rc' 113)) (e11 : rc'[11]? = rc[11]?) (e12 : rc'[12]? = rc[12]?) (e13 : rc'[13]? = rc[13]?) : Idle w' R lk la ot ct rc' en clock me peer win res := by
  obtain ⟨c, m, l1, l2, l3⟩ := h.l
  have k : ∀ {i : Nat} {o : Obj}, At w 0 i o → (∀ cs T, o = .cells cs T → T = 172) → At w' 0 i o := fun ha hk => ha.only ho (hp ha hk)
  exact ⟨⟨hR, e11.trans h.one.r11, k h.one.m (by intro cs T hh; simp at hh), h.one.k, h.one.v, h.one.b⟩, e12.trans h.r12, k h.o (by intro cs T hh; simp at hh), ⟨c, m, k l1 (by intro cs T hh; simp at hh; exact hh.2.symm), k l2 (by intro cs T hh; simp at hh), k l3 (by intro cs T hh; simp at hh)⟩, e13.trans h.r13, k h.c (by intro cs T hh; simp at hh)⟩

/-- The session behind Begin. -/
def BE (W wx : World) (sa : Nat) : Prop := ∃ g cp, At wx 0 sa (.cells ((sessionCells.setIfInBounds 0 (.int .i64 1)).setIfInBounds 1 (.slice (some ⟨g, 0, none⟩) 1 cp)) 185) ∧ wx.ownsRow W.heap.size 3 1 (.slice (some ⟨g, 0, none⟩) 1 cp) 1 [.int .i64 1] ∧ Only (· = sa) W wx
theorem be_a {W w1 : World} {sa : Nat} (o : Obj) (h : BE W.drew.drew w1 sa) : BE W (w1.alloc o) sa := by
  obtain ⟨g, cp, h1, h2, h3⟩ := h
  exact ⟨g, cp, h1.alloc _, h2.alloc _, ((Only.refl (· = sa) W).drew.drew.trans h3).alloc _⟩
theorem be_b {W w1 : World} {sa : Nat} (zs : sa < W.heap.size) (h : BE (W.alloc (.cells #[.int .i64 0, .int .i64 0, .int .i64 0, .int .i64 0] 182)).drew.drew w1 sa) (hz : At w1 0 W.heap.size (.cells #[.int .i64 0, .int .i64 0, .int .i64 0, .int .i64 0] 182)) (a0 a1 a2 a3 : Value) :
    BE W ((((w1.setCell ⟨W.heap.size, 0, none⟩ a0).setCell ⟨W.heap.size, 1, none⟩ a1).setCell ⟨W.heap.size, 2, none⟩ a2).setCell ⟨W.heap.size, 3, none⟩ a3) sa := by
  obtain ⟨g, cp, h1, h2, h3⟩ := h
  have hb : W.heap.size ≤ (W.alloc (.cells #[.int .i64 0, .int .i64 0, .int .i64 0, .int .i64 0] 182)).drew.drew.heap.size := by show W.heap.size ≤ (W.alloc _).heap.size; rw [size_alloc']; omega
  have n := Nat.ne_of_lt zs
  have o4 := (((((Only.refl (· = sa) W).alloc (.cells #[.int .i64 0, .int .i64 0, .int .i64 0, .int .i64 0] 182)).drew.drew.trans h3).setCell (k := W.heap.size) (Or.inr (Nat.le_refl _)) 0 none a0).setCell (k := W.heap.size) (Or.inr (Nat.le_refl _)) 1 none a1).setCell (k := W.heap.size) (Or.inr (Nat.le_refl _)) 2 none a2
  exact ⟨g, cp, (((h1.setCell_ne n 0 none a0).setCell_ne n 1 none a1).setCell_ne n 2 none a2).setCell_ne n 3 none a3, Joins.ownsRow_le (own4 h2 hz (by decide) a0 a1 a2 a3) hb, o4.setCell (k := W.heap.size) (Or.inr (Nat.le_refl _)) 3 none a3⟩

set_option maxHeartbeats 8000000 in
set_option maxRecDepth 100000 in
theorem replica_call (w : World) (R lk la ot ct ca sa tm vw : Nat) (rc : Array Value) (en : MapEntry) (clock : Nat) (win res n : Int) (rest : Int × Int × Int) (h : Pre w R lk la ot ct ca sa tm vw rc en clock win res n rest) :
    Calls Tryz.prog 52 #[.pointer (some ⟨R, 0, none⟩), .agg #[.int .i64 0, .int .i64 1], .agg #[.int .i64 11, .string ⟨#[107]⟩, .int .i64 0, .int .i64 0]] w fun e w' => ∃ g2 c2, e = .returned (.tuple #[.agg #[.slice none 0 0, .slice (some ⟨g2, 0, none⟩) 1 c2, .slice none 0 0], .int .i64 0]) ∧
      At w' 0 R (.cells rc 113) ∧ Only (· = sa) w w' := by
  have H := Lib.hid h
  clear h
  go_enter Tryz.func52, Tryz.ntmps52
  go_wp2_with fail
  refine wp_world (fun W => Only (fun _ => False) w W ∧ At W 0 w.heap.size (.cells #[.int .i64 0, .int .i64 1] 23) ∧ At W 0 (w.heap.size + 1) (.cells #[.int .i64 11, .string ⟨#[107]⟩, .int .i64 0, .int .i64 0] 25) ∧ At W 0 (w.heap.size + 2) (.cells #[.slice none 0 0, .slice none 0 0, .slice none 0 0] 61)) ?_ ?_
  · exact ⟨(((Only.refl _ w).alloc _).alloc _).alloc _, ((At.new' (Nat.zero_le _) rfl _).alloc _).alloc _, (At.new' (Nat.zero_le _) (by rw [size_alloc']) _).alloc _, At.new' (Nat.zero_le _) (by rw [size_alloc', size_alloc']) _⟩
  intro W hW
  have HP := H.out.only hW.1
  have q0 : W.cell? ⟨R, 0, none⟩ = some (.int .i64 2) := by rw [row_cells HP.idle.one.r.2]; exact HP.r0
  have q8 : W.cell? ⟨R, 8, none⟩ = some (.int .i64 4) := by rw [row_cells HP.idle.one.r.2]; exact HP.r8
  have q10 : W.cell? ⟨R, 10, none⟩ = some (.int .i64 0) := by rw [row_cells HP.idle.one.r.2]; exact HP.r10
  have q15 : W.cell? ⟨R, 15, none⟩ = some (.pointer (some ⟨ca, 0, none⟩)) := by rw [row_cells HP.idle.one.r.2]; exact HP.r15
  have z := HP.idle.one.r.lt
  have qb := row_cells hW.2.1.2
  have zb := hW.2.1.lt
  have HW := Lib.hid (And.intro HP hW)
  clear HP hW
  go_region
  go_wp2_with fail
  go_cut [8, 9, 10] from 40 to 49 (fun _ v9 v10 wx => v9 = .bool false ∧ v10 = .int .i64 0 ∧ BE W wx sa)
  case first =>
    have hZ : At (W.alloc (.cells #[.int .i64 0, .int .i64 0, .int .i64 0, .int .i64 0] 182)) 0 W.heap.size (.cells #[.int .i64 0, .int .i64 0, .int .i64 0, .int .i64 0] 182) := At.new' (Nat.zero_le _) rfl _
    have zs := HW.out.1.s.lt
    have CA := Lib.hid (cache_begin W.drew.drew ca sa 0 0 rest (HW.out.1.cs.of_at fun ha _ => ha) (by exact HW.out.1.s))
    have CB := Lib.hid (cache_begin (W.alloc (.cells #[.int .i64 0, .int .i64 0, .int .i64 0, .int .i64 0] 182)).drew.drew ca sa 0 0 rest (HW.out.1.cs.of_at fun ha _ => ha.alloc _) (by exact HW.out.1.s.alloc _))
    go_region_with (first
      | (go_at_call 71; refine CA.out.mono ?_; rintro e w1 ⟨rfl, g, cp, hS, hO, oB⟩; have HB := Lib.hid (show BE W.drew.drew w1 sa from ⟨g, cp, hS, hO, oB⟩); clear hS hO oB)
      | (go_at_call 71; refine CB.out.mono ?_; rintro e w1 ⟨rfl, g, cp, hS, hO, oB⟩; have hZ1 := At.only (w := (W.alloc (.cells #[.int .i64 0, .int .i64 0, .int .i64 0, .int .i64 0] 182)).drew.drew) hZ oB (Nat.ne_of_gt zs); have qz := row_cells hZ1.2; have fz := row_free hZ1.2; have zz := hZ1.lt; have HB := Lib.hid (And.intro (show BE (W.alloc (.cells #[.int .i64 0, .int .i64 0, .int .i64 0, .int .i64 0] 182)).drew.drew w1 sa from ⟨g, cp, hS, hO, oB⟩) hZ1); clear hS hO oB hZ1))
    all_goals (go_wp2_with fail; go_meet)
    all_goals refine ⟨rfl, rfl, ?_⟩
    all_goals first
      | with_reducible exact be_a _ HB.out
      | with_reducible exact be_b zs HB.out.1 HB.out.2 _ _ _ _
  case rest =>
    obtain ⟨rfl, rfl, g, cp, hS, hO, oB⟩ := hcut
    have zs := H.out.s.lt
    have b1 := HW.out.2.2.1.only oB (by omega)
    have b2 := HW.out.2.2.2.1.only oB (by omega)
    have b3 := HW.out.2.2.2.2.only oB (by omega)
    have hPs := HW.out.1.s
    have nR : R ≠ sa := HW.out.1.idle.one.r.ne_cells hPs (by intro cs' hh; simp at hh)
    have nt : tm ≠ sa := HW.out.1.tm.ne_cells hPs (by intro cs' hh; simp at hh)
    obtain ⟨gs, hgs, hg0⟩ : ∃ gs : Array Value, At wc W.heap.size g (.cells gs 3) ∧ gs[0]? = some (.int .i64 1) := by
      have h0 := hO.cellAt 0 (by omega)
      obtain ⟨-, hh | ⟨g', cap', cur, hv, hb, hg, -⟩⟩ := hO
      · simp at hh
      · simp at hv
        obtain ⟨rfl, rfl⟩ := hv
        refine ⟨cur, ⟨hb, hg⟩, ?_⟩
        rw [row_cells hg] at h0; simpa using h0
    have hcp : 1 ≤ cp := by
      obtain ⟨-, hh | ⟨g', cap', cur, hv, hb, hg, hn, -⟩⟩ := hO
      · simp at hh
      · simp at hv
        obtain ⟨rfl, rfl⟩ := hv
        exact hn
    have hvv : ViewsAt wc 0 vw 0 n := by
      obtain ⟨m, b, v1, v2, v3⟩ := HW.out.1.vv
      exact ⟨m, b, v1.only oB (v1.ne_cells hPs (by intro cs' hh; simp at hh)), v2.only oB (v2.ne_cells hPs (by intro cs' hh; simp at hh)), v3.only oB (v3.ne_cells hPs (by intro cs' hh; simp at hh))⟩
    have hRdy : Rdy wc R ca sa g cp tm vw 0 0 n rest rc ((sessionCells.setIfInBounds 0 (.int .i64 1)).setIfInBounds 1 (.slice (some ⟨g, 0, none⟩) 1 cp)) gs :=
      { r := HW.out.1.idle.one.r.only oB nR, r15 := HW.out.1.r15, r16 := HW.out.1.r16, r19 := HW.out.1.r19, r23 := HW.out.1.r23, tm := HW.out.1.tm.only oB nt, cs := HW.out.1.cs.only hPs oB, s := hS,
        h0 := by rw [Array.getElem?_setIfInBounds_ne (by decide)]; simp [sess_size]
        h1 := by simp [sess_size]
        h66 := by rw [Array.getElem?_setIfInBounds_ne (by decide), Array.getElem?_setIfInBounds_ne (by decide)]; exact sess66
        h2 := by rw [Array.getElem?_setIfInBounds_ne (by decide), Array.getElem?_setIfInBounds_ne (by decide)]; exact sess2
        h3 := by rw [Array.getElem?_setIfInBounds_ne (by decide), Array.getElem?_setIfInBounds_ne (by decide)]; exact sess3
        h4 := by rw [Array.getElem?_setIfInBounds_ne (by decide), Array.getElem?_setIfInBounds_ne (by decide)]; exact sess4
        h5 := by rw [Array.getElem?_setIfInBounds_ne (by decide), Array.getElem?_setIfInBounds_ne (by decide)]; exact sess5
        gg := hgs.mono (Nat.zero_le _), g0 := hg0, c1 := hcp, c2 := HW.out.1.c2, vv := hvv }
    have qb1 := row_cells b1.2
    have qb2 := row_cells b2.2
    have zg : W.heap.size ≤ g := hgs.1
    have zW := HW.out.2.1.size
    have HC := Lib.hid (And.intro hRdy (And.intro oB b3))
    clear q0 q8 q10 q15 qb zb z hS hO b1 b2 b3 hPs hgs hg0 hvv hRdy oB
    go_wp2_with fail
    refine (replica_take wc R ca sa g cp tm vw 0 0 n rest rc _ gs HC.out.1).mono ?_
    rintro e w3 ⟨rfl, g2, c2, A3, O3⟩
    have OW3 : Only (fun k => k = R ∨ k = sa ∨ k = g) W w3 := (HC.out.2.1.mono (q := fun k => k = R ∨ k = sa ∨ k = g) fun _ _ h => Or.inr (Or.inl h)).trans O3
    have hRW := HW.out.1.idle.one.r
    have hsW := HW.out.1.s
    have HI3 : Idle w3 R lk la ot ct (rc.setIfInBounds 23 (.slice (some ⟨g2, 0, none⟩) 1 c2)) en clock 0 1 win res := HW.out.1.idle.far OW3 (by
      rintro i o ha hk (rfl | rfl | rfl)
      · have := ha.2
        rw [hRW.2] at this
        simp only [Option.some.injEq] at this
        have := hk _ _ this.symm
        revert this; decide
      · have := ha.2
        rw [hsW.2] at this
        simp only [Option.some.injEq] at this
        have := hk _ _ this.symm
        revert this; decide
      · have := ha.lt; omega) A3 (Array.getElem?_setIfInBounds_ne (by decide)) (Array.getElem?_setIfInBounds_ne (by decide)) (Array.getElem?_setIfInBounds_ne (by decide))
    have zR := H.out.idle.one.r.lt
    have b3 := At.only (w := wc) HC.out.2.2 O3 (by
      have := HW.out.2.2.2.2.lt
      rintro (h | h | h) <;> omega)
    have HD := Lib.hid (And.intro HI3 (And.intro OW3 b3))
    have nR3 : R < w.heap.size := zR
    have ns3 : sa < w.heap.size := zs
    clear qb1 qb2 A3 O3 OW3 hRW hsW HI3 b3
    go_wp2_with fail
    refine (replica_done w3 R lk la ot ct _ en clock 0 1 win res (.slice (some ⟨g2, 0, none⟩) 1 c2) HD.out.1 (by rw [Array.getElem?_setIfInBounds_ne (by decide)]; exact H.out.r22) (by have := (Array.getElem?_eq_some_iff.1 H.out.r23).1; simp [this]) (by rw [Array.getElem?_setIfInBounds_ne (by decide)]; exact H.out.r24) g2 c2 rfl).mono ?_
    rintro e w4 ⟨rfl, A4, O4⟩
    rw [set_back H.out.r22 H.out.r23 H.out.r24] at A4
    have b4 := HD.out.2.2.only O4 (by omega)
    have q4 := row_cells b4.2
    have f4 := row_free b4.2
    have z4 := b4.lt
    have HZ := Lib.hid (And.intro A4 (And.intro O4 b4))
    clear A4 O4 b4
    go_wp2_with fail
    obtain ⟨A4, O4, b4⟩ := HZ.out
    have hF := ((b4.setCell 0 (.slice none 0 0)).setCell 1 (.slice (some ⟨g2, 0, none⟩) 1 c2)).setCell 2 (.slice none 0 0)
    have hA := ((A4.setCell_ne (b := w.heap.size + 2) (by omega) 0 none (.slice none 0 0)).setCell_ne (b := w.heap.size + 2) (by omega) 1 none (.slice (some ⟨g2, 0, none⟩) 1 c2)).setCell_ne (b := w.heap.size + 2) (by omega) 2 none (.slice none 0 0)
    have hall : Only (fun k => k = R ∨ k = sa) w w4 := by
      have o1 : Only (fun k => k = R ∨ k = sa ∨ k = g) w w4 := ((HW.out.2.1.mono (q := fun k => k = R ∨ k = sa ∨ k = g) fun _ _ h => h.elim).trans HD.out.2.1).trans (O4.mono fun _ _ h => Or.inl h)
      exact o1.mono fun k hk h => by
        rcases h with h | h | h
        · exact Or.inl h
        · exact Or.inr h
        · omega
    have hO : Only (· = sa) w (((w4.setCell ⟨w.heap.size + 2, 0, none⟩ (.slice none 0 0)).setCell ⟨w.heap.size + 2, 1, none⟩ (.slice (some ⟨g2, 0, none⟩) 1 c2)).setCell ⟨w.heap.size + 2, 2, none⟩ (.slice none 0 0)) := by
      have o2 := ((hall.setCell (k := w.heap.size + 2) (Or.inr (by omega)) 0 none (.slice none 0 0)).setCell (k := w.heap.size + 2) (Or.inr (by omega)) 1 none (.slice (some ⟨g2, 0, none⟩) 1 c2)).setCell (k := w.heap.size + 2) (Or.inr (by omega)) 2 none (.slice none 0 0)
      refine ⟨o2.os, o2.tape, o2.output, o2.size, fun k hk hne => ?_⟩
      by_cases hkR : k = R
      · subst hkR; rw [hA.2, H.out.idle.one.r.2]
      · exact o2.block k hk (fun hh => by rcases hh with hh | hh; exact hkR hh; exact hne hh)
    exact bodyPost_ret (results_row_tmp rfl _ _ (w.heap.size + 2) _ _ (0, 0) _ rfl hF.2 Tryz.underlying61 rfl (by kernel_rfl)) rfl ⟨g2, c2, rfl, hA, hO⟩
end Go.Proofs.YtegdpagjloidnaaGreatDoor
