/- A replica that knows no counter is looked at. -/
import Derived.Test.YtegdpagjloidnaaGreatDoorKeeper
import Derived.Test.YtegdpagjloidnaaGreatDoorSort0
namespace Go.Proofs.YtegdpagjloidnaaGreatDoor
open Go.RowKit Go.Conc

theorem infoCtrP : (Tryz.prog.info? 141).map (fun i => (i.zero, i.size, i.bytes)) = some (some (.pointer none), 1, 8) := by kernel_rfl
theorem mk_ctrs (w : World) : (Instr.makeSlice 139 (.int .i64 0) (.int .i64 0)).run Tryz.prog w = .ok (.slice (some ⟨w.heap.size, 0, none⟩) 0 0) (w.alloc (.cells #[] 141)) := by
  obtain ⟨i, hi, hz0, hz1, hz2⟩ := info_parts infoCtrP
  have h := run_make (P := Tryz.prog) (w := w) 139 141 i (.pointer none) Tryz.underlying139 hi hz0 .i64 .i64 0 0 (by omega) (by omega) (by omega) (by omega)
  have e : madeCells (Value.pointer none).cells (Int.toNat 0 * i.size) = #[] := by rw [show Int.toNat 0 = 0 from rfl, Nat.zero_mul, made_rep _ rfl]; rfl
  rw [h, e]; rfl

theorem run_len_map {P : Program} {t kt e : TypeId} (ht : P.underlying t = some (.map kt e)) {w : World} {b : Nat} {es : Array MapEntry} {c : Nat} (h : w.heap[b]? = some (.map es c)) (ty : TypeId) :
    (Builtin.len_ #[t] ty #[.map (some b)]).run P w = .ok (.int .i64 es.size) w := by
  simp [Builtin.len_, run_underlying ht, getObj, Sem.run, h, goInt]

theorem size_alloc' (w : World) (o : Obj) : (w.alloc o).heap.size = w.heap.size + 1 := by simp
theorem run_range_map {P : Program} {t kt e : TypeId} (ht : P.underlying t = some (.map kt e)) {w : World} {b : Nat} {es : Array MapEntry} {c : Nat} (h : w.heap[b]? = some (.map es c)) :
    (Instr.range t (.map (some b))).run P w = .ok (.pointer (some ⟨w.heap.size, 0, none⟩)) (w.alloc (.mapIter (some b) c #[] c)) := by
  simp [Instr.range, run_underlying ht, getObj, Sem.run, h, newObj]
theorem run_next_none {P : Program} {w : World} {b it s l c : Nat} (hi : w.heap[it]? = some (.mapIter (some b) s #[] l)) (hb : w.heap[b]? = some (.map #[] c)) (ty : TypeId) :
    (Instr.next (.pointer (some ⟨it, 0, none⟩)) false ty).run P w = .ok (.tuple #[.bool false]) w := by
  simp [Instr.next, getObj, Sem.run, hi, hb, choose, Question.forced]

set_option maxHeartbeats 1000000 in
set_option maxRecDepth 100000 in
theorem known0 (B : Nat) (c : Cfg) (me drops : Int) (nm ca vw gs : Option Addr) (w : World) (h : SeeAt w B c me nm ca vw gs drops) :
    Calls Tryz.prog 61 #[.pointer (some ⟨B + 7, 0, none⟩)] w fun e w' => ∃ p, e = .returned (.slice p 0 0) ∧ Below w.heap.size w w' := by
  obtain ⟨wh, h1, h2, h3, h4, h5, h6, h7⟩ := h
  have q := row_cells h1.2
  have hct := h4.2
  have z4 := h4.lt
  have z1 := h1.lt
  have hmk := mk_ctrs
  have hlen := run_len_map (P := Tryz.prog) (t := 104) Tryz.underlying104 hct
  have hr := run_range_map (P := Tryz.prog) (t := 104) Tryz.underlying104 (w := (w.alloc (Obj.cells #[] 141)).alloc (Obj.cells #[Value.slice (some { block := w.heap.size, off := 0 }) 0 0] 139)) (b := B + 4) (es := #[]) (c := 0) (by rw [heap_alloc_lt _ _ (by simp; omega), heap_alloc_lt _ _ z4]; exact hct)
  have hn := fun ty => run_next_none (P := Tryz.prog) (w := ((w.alloc (Obj.cells #[] 141)).alloc (Obj.cells #[Value.slice (some { block := w.heap.size, off := 0 }) 0 0] 139)).alloc (.mapIter (some (B + 4)) 0 #[] 0)) (it := w.heap.size + 1 + 1) (b := B + 4) (s := 0) (l := 0) (c := 0)
    (by simpa using heap_alloc_at ((w.alloc (Obj.cells #[] 141)).alloc (Obj.cells #[Value.slice (some { block := w.heap.size, off := 0 }) 0 0] 139)) (.mapIter (some (B + 4)) 0 #[] 0)) (by rw [heap_alloc_lt _ _ (by simp; omega), heap_alloc_lt _ _ (by simp; omega), heap_alloc_lt _ _ z4]; exact hct) ty
  simp only [size_alloc'] at hr
  unfold repCells at q
  clear h1 h2 h3 h4 h5 h6 h7
  go_enter Tryz.func61, Tryz.ntmps61
  go_wp2
  refine wp_loop_rounds 1 ?_; rw [rounds_succ]
  go_wp2_with (go_at_call 66; refine (counters_slice0 _ _ _ _ _ _).mono ?_; rintro e w1 ⟨rfl, hb⟩; obtain ⟨hc1, _⟩ := bcell hb)
  go_ret
  simp only [size_alloc'] at hb
  exact ⟨_, rfl, (((((Below.refl _ _).alloc (Nat.le_refl _) _).alloc (by simp) _).alloc (by simp <;> omega) _).trans (hb.mono (by omega)))⟩
end Go.Proofs.YtegdpagjloidnaaGreatDoor
