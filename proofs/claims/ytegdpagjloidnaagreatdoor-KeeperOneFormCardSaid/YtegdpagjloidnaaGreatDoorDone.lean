/- replica.done where no counter is known and nothing is to go. -/
import Derived.Test.YtegdpagjloidnaaGreatDoorFlush
namespace Go.Proofs.YtegdpagjloidnaaGreatDoor
open Go.RowKit Go.Conc

set_option maxHeartbeats 1000000 in
set_option maxRecDepth 100000 in
theorem known00 (R ct : Nat) (w : World) (q : w.cell? ⟨R, 13, none⟩ = some (.map (some ct))) (h4 : At w 0 ct (.map #[] 0)) :
    Calls Tryz.prog 61 #[.pointer (some ⟨R, 0, none⟩)] w fun e w' => ∃ p, e = .returned (.slice p 0 0) ∧ Below w.heap.size w w' := by
  have hct := h4.2
  have z4 := h4.lt
  have z1 : R < w.heap.size := World.block_lt_of_cell? w _ q
  have hmk := mk_ctrs
  have hlen := run_len_map (P := Tryz.prog) (t := 104) Tryz.underlying104 hct
  have hr := run_range_map (P := Tryz.prog) (t := 104) Tryz.underlying104 (w := (w.alloc (Obj.cells #[] 141)).alloc (Obj.cells #[Value.slice (some { block := w.heap.size, off := 0 }) 0 0] 139)) (b := ct) (es := #[]) (c := 0) (by rw [heap_alloc_lt _ _ (by simp; omega), heap_alloc_lt _ _ z4]; exact hct)
  have hn := fun ty => run_next_none (P := Tryz.prog) (w := ((w.alloc (Obj.cells #[] 141)).alloc (Obj.cells #[Value.slice (some { block := w.heap.size, off := 0 }) 0 0] 139)).alloc (.mapIter (some ct) 0 #[] 0)) (it := w.heap.size + 1 + 1) (b := ct) (s := 0) (l := 0) (c := 0)
    (by simpa using heap_alloc_at ((w.alloc (Obj.cells #[] 141)).alloc (Obj.cells #[Value.slice (some { block := w.heap.size, off := 0 }) 0 0] 139)) (.mapIter (some ct) 0 #[] 0)) (by rw [heap_alloc_lt _ _ (by simp; omega), heap_alloc_lt _ _ (by simp; omega), heap_alloc_lt _ _ z4]; exact hct) ty
  simp only [size_alloc'] at hr
  clear h4
  go_enter Tryz.func61, Tryz.ntmps61
  go_wp2
  refine wp_loop_rounds 1 ?_; rw [rounds_succ]
  go_wp2_with (go_at_call 66; refine (counters_slice0 _ _ _ _ _ _).mono ?_; rintro e w1 ⟨rfl, hb⟩; obtain ⟨hc1, _⟩ := bcell hb)
  go_ret
  simp only [size_alloc'] at hb
  exact ⟨_, rfl, (((((Below.refl _ _).alloc (Nat.le_refl _) _).alloc (by simp) _).alloc (by simp <;> omega) _).trans (hb.mono (by omega)))⟩

/-- A replica with one peer that knows no counter, and from which nothing is to go. -/
structure Idle (w : World) (R lk la ot ct : Nat) (rc : Array Value) (en : MapEntry) (clock : Nat) (me peer win res : Int) : Prop where
  one : OneLink w R lk la rc en clock peer
  r12 : rc[12]? = some (.map (some ot))
  o : At w 0 ot (.map #[] 0)
  l : LinkAt w 0 la me peer win res
  r13 : rc[13]? = some (.map (some ct))
  c : At w 0 ct (.map #[] 0)
theorem Idle.only {w w' : World} {R lk la ot ct : Nat} {rc : Array Value} {en : MapEntry} {clock : Nat} {me peer win res : Int} (h : Idle w R lk la ot ct rc en clock me peer win res) (ho : Only (fun _ => False) w w') : Idle w' R lk la ot ct rc en clock me peer win res :=
  { h with one := h.one.only ho, o := h.o.only ho id, l := h.l.only ho, c := h.c.only ho id }

set_option maxHeartbeats 4000000 in
set_option maxRecDepth 100000 in
theorem replica_done (w : World) (R lk la ot ct : Nat) (rc : Array Value) (en : MapEntry) (clock : Nat) (me peer win res : Int) (v : Value) (h : Idle w R lk la ot ct rc en clock me peer win res) (r22 : rc[22]? = some (.slice none 0 0)) (r23 : rc[23]? = some v) (r24 : rc[24]? = some (.slice none 0 0)) (g2 c2 : Nat) (hv : v = .slice (some ⟨g2, 0, none⟩) 1 c2) :
    Calls Tryz.prog 73 #[.pointer (some ⟨R, 0, none⟩)] w fun e w' => e = .returned (.agg #[.slice none 0 0, .slice (some ⟨g2, 0, none⟩) 1 c2, .slice none 0 0]) ∧
      At w' 0 R (.cells (((rc.setIfInBounds 22 (.slice none 0 0)).setIfInBounds 23 (.slice none 0 0)).setIfInBounds 24 (.slice none 0 0)) 113) ∧ Only (· = R) w w' := by
  subst hv
  have z := h.one.r.lt
  have H := Lib.hid (And.intro h (And.intro r22 (And.intro r23 r24)))
  clear h r22 r23 r24
  go_enter Tryz.func73, Tryz.ntmps73
  go_wp2_with fail
  refine (known00 R ct _ (Lib.cell?_alloc_some _ (by rw [row_cells H.out.1.one.r.2]; exact H.out.1.r13)) (H.out.1.c.alloc _)).mono ?_
  rintro e w1 ⟨p, rfl, hb⟩
  have o1 : Only (fun _ => False) w w1 := ((Only.refl _ w).alloc _).trans (Only.of_below hb (Nat.le_refl _))
  have A1 : At w1 0 w.heap.size (.cells #[.slice none 0 0, .slice none 0 0, .slice none 0 0] 61) := (At.new' (Nat.zero_le _) rfl _).below hb (by rw [size_alloc']; omega)
  have O1 := Lib.hid (And.intro o1 A1)
  clear o1 A1 hb
  go_wp2_with fail
  refine wp_loop_rounds 1 ?_; rw [rounds_succ]
  go_wp2_with fail
  refine (replica_flush w1 R lk la ot rc en clock me peer win res (H.out.1.only O1.out.1).one H.out.1.r12 (H.out.1.only O1.out.1).o (H.out.1.only O1.out.1).l).mono ?_
  rintro e w2 ⟨rfl, o2⟩
  have AR := H.out.1.one.r.only (O1.out.1.trans o2) id
  have AA := O1.out.2.only o2 id
  have q22 : w2.cell? ⟨R, 22, none⟩ = some (.slice none 0 0) := by rw [row_cells AR.2]; exact H.out.2.1
  have q23 : w2.cell? ⟨R, 23, none⟩ = some (.slice (some ⟨g2, 0, none⟩) 1 c2) := by rw [row_cells AR.2]; exact H.out.2.2.1
  have q24 : w2.cell? ⟨R, 24, none⟩ = some (.slice none 0 0) := by rw [row_cells AR.2]; exact H.out.2.2.2
  have f := row_free AR.2
  have qa := row_cells AA.2
  have fa := row_free AA.2
  have z2 := AR.lt
  have z3 := AA.lt
  have HF := Lib.hid (And.intro AR (And.intro AA (O1.out.1.trans o2)))
  clear AR AA o2
  go_wp2_with fail
  obtain ⟨AR, AA, O2⟩ := HF.out
  have hne : w.heap.size ≠ R := by omega
  have R3 := ((AR.setCell 22 (.slice none 0 0)).setCell 23 (.slice none 0 0)).setCell 24 (.slice none 0 0)
  have R6 := (((R3.setCell_ne (b := w.heap.size) (by omega) 0 none (.slice none 0 0)).setCell_ne (b := w.heap.size) (by omega) 1 none (.slice (some ⟨g2, 0, none⟩) 1 c2)).setCell_ne (b := w.heap.size) (by omega) 2 none (.slice none 0 0)).alloc (.cells #[.slice none 0 0, .slice (some ⟨g2, 0, none⟩) 1 c2, .slice none 0 0] 61)
  have A3 := ((AA.setCell_ne (b := R) hne 22 none (.slice none 0 0)).setCell_ne (b := R) hne 23 none (.slice none 0 0)).setCell_ne (b := R) hne 24 none (.slice none 0 0)
  have A6 := (((A3.setCell 0 (.slice none 0 0)).setCell 1 (.slice (some ⟨g2, 0, none⟩) 1 c2)).setCell 2 (.slice none 0 0)).alloc (.cells #[.slice none 0 0, .slice (some ⟨g2, 0, none⟩) 1 c2, .slice none 0 0] 61)
  have F3 := ((((O2.mono (q := (· = R)) fun _ _ h => h.elim).setCell (Or.inl rfl) 22 none (.slice none 0 0)).setCell (k := R) (Or.inl rfl) 23 none (.slice none 0 0)).setCell (k := R) (Or.inl rfl) 24 none (.slice none 0 0))
  have F6 := ((((F3.setCell (k := w.heap.size) (Or.inr (Nat.le_refl _)) 0 none (.slice none 0 0)).setCell (k := w.heap.size) (Or.inr (Nat.le_refl _)) 1 none (.slice (some ⟨g2, 0, none⟩) 1 c2)).setCell (k := w.heap.size) (Or.inr (Nat.le_refl _)) 2 none (.slice none 0 0)).alloc (.cells #[.slice none 0 0, .slice (some ⟨g2, 0, none⟩) 1 c2, .slice none 0 0] 61))
  exact bodyPost_ret (results_cell_row rfl _ _ w.heap.size _ _ (0, 0) _ rfl A6.2 Tryz.underlying61 rfl (by kernel_rfl)) rfl ⟨rfl, R6, F6⟩
end Go.Proofs.YtegdpagjloidnaaGreatDoor
