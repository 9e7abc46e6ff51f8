/- A sector is written for the first time. -/
import Derived.Test.YtegdpagjloidnaaGreatDoorSee3
namespace Go.Proofs.YtegdpagjloidnaaGreatDoor
open Go.RowKit Go.Conc

/-- A disk that is on and not armed; its sectors' pointers; how many writes there were. -/
def DiskSt (w : World) (lo d sb : Nat) (ps : Array Value) (wr : Int) (tr : Array Value) : Prop :=
  At w lo d (.cells (diskCells sb ps.size false wr tr) 86) ∧ At w lo sb (.cells ps 304)

theorem zero_sector : Tryz.zeroCells306 = bytes0 512 := by kernel_rfl
set_option maxHeartbeats 1000000 in
set_option maxRecDepth 100000 in
theorem disk_own (w : World) (lo d sb : Nat) (ps : Array Value) (wr : Int) (tr : Array Value) (i : Nat) (h : DiskSt w lo d sb ps wr tr) (hi : ps[i]? = some (.pointer none)) (hne : d ≠ sb) :
    Calls Tryz.prog 93 #[.pointer (some ⟨d, 0, none⟩), .int .i64 i] w fun e w' => e = .returned (.slice (some ⟨w.heap.size, 0, none⟩) 512 512) ∧
      w' = (w.setCell ⟨sb, i, none⟩ (.pointer (some ⟨w.heap.size, 0, none⟩))).alloc (.cells (bytes0 512) 306) := by
  obtain ⟨c0, c1, c2, c5⟩ := disk_row h.1.2
  have hc : w.cell? ⟨sb, i, none⟩ = some (.pointer none) := by rw [row_cells h.2.2]; exact hi
  have hf : w.frozen? ⟨sb, i, none⟩ = false := row_free h.2.2 i
  have hlt : i < ps.size := (Array.getElem?_eq_some_iff.1 hi).1
  have zd := h.1.lt
  have zs := h.2.lt
  have HI := Lib.hid hi
  have HH := Lib.hid h
  clear h hi
  go_enter Tryz.func93, Tryz.ntmps93
  go_wp2
  go_ret
  exact ⟨rfl, by rw [zero_sector]⟩

theorem disk_set (sb n : Nat) (wr wr' : Int) (tr : Array Value) (m : Nat) (v : Value) : ((diskCells sb n false wr tr).setIfInBounds (6 + m) v).setIfInBounds 5 (.int .i64 wr') = diskCells sb n false wr' (tr.setIfInBounds m v) := by
  rw [Nat.add_comm 6 m]
  apply Array.ext'
  simp [diskCells]

set_option maxHeartbeats 400000 in
theorem disk_reach' (w : World) (d sb n : Nat) (i : Int) (c0 : w.cell? ⟨d, 0, none⟩ = some (.slice (some ⟨sb, 0, none⟩) n n)) (c1 : w.cell? ⟨d, 1, none⟩ = some (.bool false)) (h0 : 0 ≤ i) (hi : i < n) :
    Calls Tryz.prog 92 #[.pointer (some ⟨d, 0, none⟩), .int .i64 i] w fun e w' => e = .returned (.int .i64 0) ∧ w = w' := by
  go_enter Tryz.func92, Tryz.ntmps92
  go_wp2
  go_ret
  exact ⟨rfl, rfl⟩

theorem copy_sector_n (n : Nat) {w3 : World} {S bk : Nat} {cs : Array Value} (hS : w3.heap[S]? = some (.cells (bytes0 n) 306 (0, 0))) (hb : w3.heap[bk]? = some (.cells cs 5 (0, 0))) (hcs : cs.size = n) (hc1 : ∀ v ∈ cs.toList, v.oneCell' = true) (ty : TypeId) :
    (Builtin.copy_ #[26, 26] ty #[.slice (some ⟨S, 0, none⟩) n n, .slice (some ⟨bk, 0, none⟩) n n]).run Tryz.prog w3 = .ok (.int .i64 n) (w3.setRow S cs) := by
  have h := run_copy_row (P := Tryz.prog) w3 26 26 ty 5 S 0 n n ⟨bk, 0, none⟩ n n (bytes0 n) 306 cs.toList Tryz.underlying26 (by kernel_rfl) hS (by simp [hcs]) (by
    intro j v hv
    rw [addr_add, row_cells hb]; simpa using hv) (by simp [hcs, bytes0]) hc1
  rw [h]
  have e : ((bytes0 n).toList.take 0 ++ cs.toList ++ (bytes0 n).toList.drop (0 + cs.toList.length)).toArray = cs := by
    simp [bytes0, hcs]
  rw [e]
  simp [hcs, goInt]
theorem copy_sector {w3 : World} {S bk : Nat} {cs : Array Value} (hS : w3.heap[S]? = some (.cells (bytes0 512) 306 (0, 0))) (hb : w3.heap[bk]? = some (.cells cs 5 (0, 0))) (hcs : cs.size = 512) (hc1 : ∀ v ∈ cs.toList, v.oneCell' = true) (ty : TypeId) :
    (Builtin.copy_ #[26, 26] ty #[.slice (some ⟨S, 0, none⟩) 512 512, .slice (some ⟨bk, 0, none⟩) 512 512]).run Tryz.prog w3 = .ok (.int .i64 512) (w3.setRow S cs) := copy_sector_n 512 hS hb hcs hc1 ty

theorem size_drew (w : World) : w.drew.heap.size = w.heap.size := rfl
theorem setRow_ne (w : World) (g : Nat) (cs : Array Value) {k : Nat} (h : k ≠ g) : (w.setRow g cs).heap[k]? = w.heap[k]? := by
  simp only [World.setRow, Array.getElem?_modify]
  rw [if_neg (Ne.symm h)]
theorem own_new (w : World) (S : Nat) (o : Obj) (h : w.heap.size = S) : (w.alloc o).heap[S]? = some o := by subst h; exact heap_alloc_at w o
theorem own_old {w : World} {bk sb : Nat} (i : Nat) (v : Value) (o : Obj) (x : Option Obj) (h : bk < w.heap.size) (hne : bk ≠ sb) (hx : w.heap[bk]? = x) : ((w.setCell ⟨sb, i, none⟩ v).alloc o).heap[bk]? = x := by
  rw [heap_alloc_lt _ _ (by rw [size_setCell]; exact h), Below.heap_setCell _ _ _ _ (by show bk ≠ sb; exact hne)]; exact hx
theorem wr_old {w : World} {bk d i j : Nat} {v u : Value} {x : Option Obj} (hne : bk ≠ d) (hx : w.heap[bk]? = x) : (((w.setCell ⟨d, i, none⟩ v).setCell ⟨d, j, none⟩ u).drew).heap[bk]? = x := by
  show ((w.setCell ⟨d, i, none⟩ v).setCell ⟨d, j, none⟩ u).heap[bk]? = x
  rw [Below.heap_setCell _ _ _ _ (by show bk ≠ d; exact hne), Below.heap_setCell _ _ _ _ (by show bk ≠ d; exact hne)]; exact hx

/-- What a first write of a sector does. -/
structure Wrote (w w' : World) (lo d sb : Nat) (ps : Array Value) (wr : Int) (tr : Array Value) (i : Nat) : Prop where
  st : DiskSt w' lo d sb (ps.setIfInBounds i (.pointer (some ⟨w.heap.size, 0, none⟩))) (wr + 1) (tr.setIfInBounds (wr % 64).toNat (.int .i64 i))
  os : w'.os = w.os
  tape : w'.tape = w.tape
  output : w'.output = w.output
  size : w.heap.size < w'.heap.size
  block : ∀ k, k < w.heap.size → k ≠ d → k ≠ sb → w'.heap[k]? = w.heap[k]?

set_option maxHeartbeats 2000000 in
set_option maxRecDepth 100000 in
theorem disk_write (w : World) (lo d sb : Nat) (ps : Array Value) (wr t0 : Int) (tr : Array Value) (i bk : Nat) (cs : Array Value) (h : DiskSt w lo d sb ps wr tr) (hi : ps[i]? = some (.pointer none)) (hne : d ≠ sb) (hw0 : 0 ≤ wr) (hw1 : wr ≤ 1000000)
    (ht : tr[(wr % 64).toNat]? = some (.int .i64 t0)) (hb : w.heap[bk]? = some (.cells cs 5 (0, 0))) (hcs : cs.size = 512) (hc1 : ∀ v ∈ cs.toList, v.oneCell' = true) (hbd : bk ≠ d) (hbs : bk ≠ sb) :
    Calls Tryz.prog 59 #[.pointer (some ⟨d, 0, none⟩), .int .i64 i, .slice (some ⟨bk, 0, none⟩) 512 512] w fun e w' => e = .returned (.int .i64 0) ∧ Wrote w w' lo d sb ps wr tr i := by
  obtain ⟨c0, c1, c2, c5⟩ := disk_row h.1.2
  have f := row_free h.1.2
  have hm0 : 0 ≤ wr % 64 := Int.emod_nonneg _ (by decide)
  have hm1 : wr % 64 < 64 := Int.emod_lt_of_pos _ (by decide)
  have ct : w.cell? ⟨d, 6 + (wr % 64).toNat, none⟩ = some (.int .i64 t0) := by
    rw [row_cells h.1.2]; unfold diskCells; rw [Array.getElem?_append_right (by simp)]; simpa using ht
  have hlt : i < ps.size := (Array.getElem?_eq_some_iff.1 hi).1
  have zd := h.1.lt
  have zs := h.2.lt
  have HI := Lib.hid (And.intro hi (And.intro ht (And.intro hb (And.intro hcs hc1))))
  have HH := Lib.hid h
  clear h hi ht hb hcs hc1
  go_enter Tryz.func59, Tryz.ntmps59
  go_wp2_with (go_at_call 92; refine (disk_reach' _ d sb ps.size i c0 c1 (by omega) (by omega)).mono ?_; rintro e w1 ⟨rfl, rfl⟩)
  have hd2 : DiskSt ((w.setCell ⟨d, 6 + (wr % 64).toNat, none⟩ (.int .i64 i)).setCell ⟨d, 5, none⟩ (.int .i64 (wr + 1))) lo d sb ps (wr + 1) (tr.setIfInBounds (wr % 64).toNat (.int .i64 i)) :=
    ⟨by rw [← disk_set]; exact (HH.out.1.setCell _ _).setCell _ _, (HH.out.2.setCell_ne (Ne.symm hne) _ _ _).setCell_ne (Ne.symm hne) _ _ _⟩
  have zb := lt_of_heap HI.out.2.2.1
  have e5 := disk_row hd2.1.2
  have HD2 := Lib.hid hd2
  clear hd2
  obtain ⟨e0, e1, e2, e5⟩ := e5
  clear e1 e5
  go_region
  go_wp2_with (go_at_call 93; refine (disk_own _ lo d sb ps (wr + 1) (tr.setIfInBounds (wr % 64).toNat (.int .i64 i)) i (by exact HD2.out) HI.out.1 hne).mono ?_; rintro e w3 ⟨rfl, hw3⟩; rw [size_drew, size_setCell, size_setCell] at hw3 ⊢; have hcp := copy_sector (w3 := w3) (S := w.heap.size) (bk := bk) (cs := cs) (by rw [hw3]; exact own_new _ _ _ (by rw [size_setCell, size_drew, size_setCell, size_setCell])) (by rw [hw3]; exact own_old _ _ _ _ (by rw [size_drew, size_setCell, size_setCell]; exact zb) hbs (by exact wr_old hbd HI.out.2.2.1)) HI.out.2.2.2.1 HI.out.2.2.2.2; have HW3 := Lib.hid hw3; clear hw3)
  go_ret
  have hw3 := HW3.out
  have hz : ∀ k, k < w.heap.size → (w3.setRow w.heap.size cs).heap[k]? = (((w.setCell ⟨d, 6 + (wr % 64).toNat, none⟩ (.int .i64 i)).setCell ⟨d, 5, none⟩ (.int .i64 (wr + 1))).setCell ⟨sb, i, none⟩ (.pointer (some ⟨w.heap.size, 0, none⟩))).heap[k]? := by
    intro k hk
    rw [setRow_ne _ _ _ (by omega), hw3, heap_alloc_lt _ _ (by rw [size_setCell, size_drew, size_setCell, size_setCell]; exact hk)]
    rfl
  have s1 := HD2.out.1.setCell_ne hne i none (.pointer (some ⟨w.heap.size, 0, none⟩))
  have s2 := HD2.out.2.setCell i (.pointer (some ⟨w.heap.size, 0, none⟩))
  refine ⟨rfl, ⟨⟨s1.1, ?_⟩, ⟨s2.1, ?_⟩⟩, by show w3.os = _; rw [hw3]; rfl, by show w3.tape = _; rw [hw3]; rfl, by show w3.output = _; rw [hw3]; rfl, ?_, fun k hk hkd hks => ?_⟩
  · rw [hz d zd]; simpa using s1.2
  · rw [hz sb zs]; exact s2.2
  · have : (w3.setRow w.heap.size cs).heap.size = w3.heap.size := by simp [World.setRow]
    rw [this, hw3]; simp
  · rw [hz k hk, Below.heap_setCell _ _ _ _ (by show k ≠ sb; exact hks), Below.heap_setCell _ _ _ _ (by show k ≠ d; exact hkd), Below.heap_setCell _ _ _ _ (by show k ≠ d; exact hkd)]
end Go.Proofs.YtegdpagjloidnaaGreatDoor
