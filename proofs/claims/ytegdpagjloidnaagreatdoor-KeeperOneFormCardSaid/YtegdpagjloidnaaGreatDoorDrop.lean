/- A frame that is too short is dropped; a keeper that is not down is looked at. -/
import Derived.Test.YtegdpagjloidnaaGreatDoorClone
import Derived.Laws.ResultCell
namespace Go.Proofs.YtegdpagjloidnaaGreatDoor
open Go.RowKit Go.Conc

set_option maxRecDepth 100000 in
set_option maxHeartbeats 1000000 in
theorem frame_short (ao : Option Addr) (n cap : Nat) (w : World) (hn : n < 7) :
    Calls Tryz.prog 75 #[.slice ao n cap] w fun e w' => e = .returned (.tuple #[.slice none 0 0, .int .i64 10]) ∧ w = w' := by
  have hn' : (n : Int) < 7 := by omega
  go_enter Tryz.func75, Tryz.ntmps75
  go_wp2
  go_ret2
  exact ⟨rfl, rfl⟩

theorem MapAt.setCell_ne {α : Type} {w : World} {lo b : Nat} {key : α → Value} {l : List (α × Value)} (h : MapAt w lo b key l) {k : Nat} (hne : b ≠ k) (o : Nat) (s : Option Nat) (v : Value) : MapAt (w.setCell ⟨k, o, s⟩ v) lo b key l := by
  obtain ⟨es, c, h1, h2⟩ := h; exact ⟨es, c, h1.setCell_ne hne _ _ _, h2⟩
theorem SeeAt.drops {w : World} {B : Nat} {c : Cfg} {me drops : Int} {nm ca vw gs : Option Addr} (h : SeeAt w B c me nm ca vw gs drops) (d : Int) : SeeAt (w.setCell ⟨B + 7, 21, none⟩ (.int .i64 d)) B c me nm ca vw gs d := by
  obtain ⟨wh, h1, ⟨l, m1, m2, m3⟩, h3, h4, h5, h6, h7⟩ := h
  have hs : Same (B + 9) w (w.setCell ⟨B + 7, 21, none⟩ (.int .i64 d)) := Same.setCell w (by omega) _ _ _
  exact ⟨wh, h1.setCell 21 _, ⟨l, m1.setCell_ne (by omega) _ _ _, m2, fun p hp => by obtain ⟨a, e1, e2⟩ := m3 p hp; exact ⟨a, e1, e2.keep hs⟩⟩, h3.setCell_ne (by omega) _ _ _, h4.setCell_ne (by omega) _ _ _, h5.setCell_ne (by omega) _ _ _, h6.setCell_ne (by omega) _ _ _, h7.keep hs⟩

theorem results_row_tmp {P : Program} {fn : Func} {p u : Tmp} {ty : TypeId} (h : fn.results = #[.cell p ty, .tmp u]) (tmps : Array Value) (w : World) (g : Nat) (t : TypeId) (cs : Array Value) (fr : Nat × Nat) (d : TypeDesc)
    (hp : tmps.getD p undef = .pointer (some ⟨g, 0, none⟩)) (hg : w.heap[g]? = some (.cells cs t fr))
    (hu : P.underlying ty = some d) (hd : (match d with | .struct _ | .array _ _ => true | _ => false) = true) (hi : (P.info? ty).map (·.size) = some cs.size) :
    (results fn tmps).run P w = .ok (.tuple #[.agg cs, tmps.getD u undef]) w := by
  rw [results_cell_tmp h, hp]
  simp [asAddr, run_loadVar_row w g t ty cs fr d hg hu hd hi, Result.andThen]

/-- Of what there was, only the count of drops of the replica at B + 7 has turned: to d. -/
structure Drop1 (B : Nat) (d : Int) (w w' : World) : Prop where
  os : w'.os = w.os
  tape : w'.tape = w.tape
  output : w'.output = w.output
  size : w.heap.size ≤ w'.heap.size
  block : ∀ k, k < w.heap.size → w'.heap[k]? = (w.setCell ⟨B + 7, 21, none⟩ (.int .i64 d)).heap[k]?
theorem Drop1.see {B : Nat} {d : Int} {w w' : World} (h : Drop1 B d w w') {c : Cfg} {me drops : Int} {nm ca vw gs : Option Addr} (hs : SeeAt w B c me nm ca vw gs drops) : SeeAt w' B c me nm ca vw gs d :=
  (hs.drops d).keep ⟨by rw [size_setCell]; exact h.size, fun k _ hk => h.block k (by rw [size_setCell] at hk; exact hk)⟩
theorem Drop1.same {B : Nat} {d : Int} {w w' : World} (h : Drop1 B d w w') : Same (B + 8) w w' :=
  ⟨h.size, fun k hk hlt => by rw [h.block k hlt]; exact Below.heap_setCell _ _ _ _ (by show k ≠ B + 7; omega)⟩
theorem Drop1.below {B : Nat} {d : Int} {w w' : World} (h : Drop1 B d w w') {D : Nat} (hD : D ≤ B + 7) (hw : D ≤ w.heap.size) : Below D w w' :=
  ⟨h.os, h.tape, h.output, h.size, fun k hk => by rw [h.block k (by omega)]; exact Below.heap_setCell _ _ _ _ (by show k ≠ B + 7; omega)⟩
theorem setCell_alloc_lt (w : World) (o : Obj) (a : Addr) (v : Value) {k : Nat} (hk : k < w.heap.size) : ((w.alloc o).setCell a v).heap[k]? = (w.setCell a v).heap[k]? := by
  by_cases h : k = a.block
  · simp only [World.setCell, Array.getElem?_modify]
    rw [heap_alloc_lt _ _ hk]
  · rw [Below.heap_setCell _ _ _ _ h, Below.heap_setCell _ _ _ _ h, heap_alloc_lt _ _ hk]

def actsCells : Array Value := #[.slice none 0 0, .slice none 0 0, .slice none 0 0]
set_option maxRecDepth 100000 in
set_option maxHeartbeats 1000000 in
theorem replica_drop (B : Nat) (c : Cfg) (me drops er : Int) (nm ca vw gs : Option Addr) (w : World) (h : SeeAt w B c me nm ca vw gs drops) (hd : 0 ≤ drops) (hd1 : drops ≤ 1000000) :
    Calls Tryz.prog 76 #[.pointer (some ⟨B + 7, 0, none⟩), .int .i64 er] w fun e w' => e = .returned (.tuple #[.agg actsCells, .int .i64 er]) ∧
      Drop1 B (drops + 1) w w' := by
  have HS := Lib.hid h
  obtain ⟨wh, h1, -⟩ := h
  have q := row_cells h1.2
  have f := row_free h1.2
  have z := h1.lt
  unfold repCells at q
  clear h1
  go_enter Tryz.func76, Tryz.ntmps76
  go_wp2
  have hh : ((w.setCell ⟨B + 7, 21, none⟩ (.int .i64 (drops + 1))).alloc (.cells actsCells 61)).heap[w.heap.size]? = some (.cells actsCells 61) := by
    have := heap_alloc_at (w.setCell ⟨B + 7, 21, none⟩ (.int .i64 (drops + 1))) (.cells actsCells 61)
    rw [size_setCell] at this; exact this
  refine bodyPost_ret (results_row_tmp rfl _ _ w.heap.size _ actsCells (0, 0) _ rfl hh Tryz.underlying61 rfl (by kernel_rfl)) rfl ⟨rfl, rfl, rfl, rfl, by simp, fun k hk => ?_⟩
  exact heap_alloc_lt _ _ (by rw [size_setCell]; exact hk)

set_option maxRecDepth 100000 in
set_option maxHeartbeats 1000000 in
theorem replica_frame_short (B : Nat) (c : Cfg) (me drops : Int) (nm ca vw gs : Option Addr) (ao : Option Addr) (n cap : Nat) (w : World) (h : SeeAt w B c me nm ca vw gs drops) (hd : 0 ≤ drops) (hd1 : drops ≤ 1000000) (hn : n < 7) :
    Calls Tryz.prog 54 #[.pointer (some ⟨B + 7, 0, none⟩), .slice ao n cap] w fun e w' => e = .returned (.tuple #[.agg actsCells, .int .i64 10]) ∧
      Drop1 B (drops + 1) w w' := by
  have HS := Lib.hid h
  have hB9 : B + 9 ≤ w.heap.size := by obtain ⟨wh, -, -, -, -, -, -, m, g, _⟩ := h; have := g.1; have := g.lt; omega
  clear h
  go_enter Tryz.func54, Tryz.ntmps54
  go_wp2_with (first
    | (go_at_call 75; refine (frame_short _ _ _ _ hn).mono ?_; rintro e w1 ⟨rfl, rfl⟩)
    | (go_at_call 76; refine (replica_drop B c me drops 10 nm ca vw gs _ (HS.out.keep (Same.alloc _ _ _)) hd hd1).mono ?_; rintro e w1 ⟨rfl, hdr⟩; have A1 : At w1 (B + 8) w.heap.size (.cells actsCells 61) := (At.new (by omega) _).keep hdr.same; have q1 := row_cells A1.2; have f1 := row_free A1.2; have HA := Lib.hid A1; have HD := Lib.hid hdr; clear hdr A1; unfold actsCells at q1 ⊢))
  have hF := ((HA.out.setCell 0 (.slice none 0 0)).setCell 1 (.slice none 0 0)).setCell 2 (.slice none 0 0)
  refine bodyPost_ret (results_row_tmp rfl _ _ w.heap.size _ _ (0, 0) _ rfl hF.2 Tryz.underlying61 rfl (by kernel_rfl)) rfl ⟨rfl, HD.out.os, HD.out.tape, HD.out.output, ?_, fun k hk => ?_⟩
  · have := HD.out.size; simp at *; omega
  · rw [Below.heap_setCell _ _ _ _ (by show k ≠ w.heap.size; omega), Below.heap_setCell _ _ _ _ (by show k ≠ w.heap.size; omega), Below.heap_setCell _ _ _ _ (by show k ≠ w.heap.size; omega), HD.out.block k (by simp; omega)]
    exact setCell_alloc_lt _ _ _ _ hk
end Go.Proofs.YtegdpagjloidnaaGreatDoor
