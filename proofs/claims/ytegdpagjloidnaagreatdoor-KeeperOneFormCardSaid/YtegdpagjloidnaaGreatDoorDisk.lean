/- A disk on which nothing was written. -/
import Derived.Test.YtegdpagjloidnaaGreatDoorNews
import Derived.Laws.CopyRow
namespace Go.Proofs.YtegdpagjloidnaaGreatDoor
open Go.RowKit Go.Conc

def nilPtrs (n : Nat) : Array Value := (List.replicate n (Value.pointer none)).toArray
def bytes0 (n : Nat) : Array Value := (List.replicate n (Value.int .u8 0)).toArray
theorem infoSecP : (Tryz.prog.info? 304).map (fun i => (i.zero, i.size, i.bytes)) = some (some (.pointer none), 1, 8) := by kernel_rfl
theorem infoU8 : (Tryz.prog.info? 5).map (fun i => (i.zero, i.size, i.bytes)) = some (some (.int .u8 0), 1, 1) := by kernel_rfl
theorem made_rep (z : Value) (hz : z.cells = #[z]) (k : Nat) : madeCells z.cells k = (List.replicate k z).toArray := by
  apply Array.ext
  · simp [madeCells]
  · intro j h1 h2; simp [madeCells, hz, Nat.mod_one]
theorem mk_secs (n : Int) (h0 : 0 ≤ n) (h1 : n ≤ 65536) (w : World) : (Instr.makeSlice 83 (.int .i64 n) (.int .i64 n)).run Tryz.prog w = .ok (.slice (some ⟨w.heap.size, 0, none⟩) n.toNat n.toNat) (w.alloc (.cells (nilPtrs n.toNat) 304)) := by
  obtain ⟨i, hi, hz0, hz1, hz2⟩ := info_parts infoSecP
  have h := run_make (P := Tryz.prog) (w := w) 83 304 i (.pointer none) Tryz.underlying83 hi hz0 .i64 .i64 n n h0 (Int.le_refl _) (by rw [hz2]; omega) (by omega)
  rw [h, hz1, Nat.mul_one, made_rep _ rfl]; rfl
theorem mk_bytes (n : Int) (h0 : 0 ≤ n) (h1 : n ≤ 140737488355328) (w : World) : (Instr.makeSlice 26 (.int .i64 n) (.int .i64 n)).run Tryz.prog w = .ok (.slice (some ⟨w.heap.size, 0, none⟩) n.toNat n.toNat) (w.alloc (.cells (bytes0 n.toNat) 5)) := by
  obtain ⟨i, hi, hz0, hz1, hz2⟩ := info_parts infoU8
  have h := run_make (P := Tryz.prog) (w := w) 26 5 i (.int .u8 0) Tryz.underlying26 hi hz0 .i64 .i64 n n h0 (Int.le_refl _) (by rw [hz2]; omega) (by omega)
  rw [h, hz1, Nat.mul_one, made_rep _ rfl]; rfl

def diskCells (sb n : Nat) (off : Bool) (wr : Int) (tr : Array Value) : Array Value := #[.slice (some ⟨sb, 0, none⟩) n n, .bool off, .bool false, .int .i64 0, .int .i64 0, .int .i64 wr] ++ tr
theorem disk_row {w : World} {d sb n : Nat} {off : Bool} {wr : Int} {tr : Array Value} {T : TypeId} (h : w.heap[d]? = some (.cells (diskCells sb n off wr tr) T (0, 0))) :
    w.cell? ⟨d, 0, none⟩ = some (.slice (some ⟨sb, 0, none⟩) n n) ∧ w.cell? ⟨d, 1, none⟩ = some (.bool off) ∧ w.cell? ⟨d, 2, none⟩ = some (.bool false) ∧ w.cell? ⟨d, 5, none⟩ = some (.int .i64 wr) := by
  refine ⟨?_, ?_, ?_, ?_⟩ <;> · rw [row_cells h]; simp [diskCells, Array.getElem?_append]
/-- A disk of n sectors, on, not armed; none was written. -/
def DiskAt (w : World) (lo d n : Nat) : Prop := ∃ sb tr, At w lo d (.cells (diskCells sb n false 0 tr) 86) ∧ At w lo sb (.cells (nilPtrs n) 304) ∧ tr.size = 64
theorem DiskAt.keep {w w' : World} {lo d n : Nat} (h : DiskAt w lo d n) (hs : Same lo w w') : DiskAt w' lo d n := by
  obtain ⟨sb, tr, h1, h2, h3⟩ := h; exact ⟨sb, tr, h1.keep hs, h2.keep hs, h3⟩
theorem DiskAt.mono {w : World} {lo lo' d n : Nat} (h : DiskAt w lo d n) (hl : lo' ≤ lo) : DiskAt w lo' d n := by
  obtain ⟨sb, tr, h1, h2, h3⟩ := h; exact ⟨sb, tr, h1.mono hl, h2.mono hl, h3⟩
theorem DiskAt.below {w w' : World} {lo d n B : Nat} (h : DiskAt w lo d n) (hb : Below B w w') (hB : w.heap.size ≤ B) : DiskAt w' lo d n := h.keep (Same.below hb hB)

theorem zero_disk (sb n : Nat) : Tryz.zeroCells86.setIfInBounds 0 (.slice (some ⟨sb, 0, none⟩) n n) = diskCells sb n false 0 (List.replicate 64 (Value.int .i64 0)).toArray := by kernel_rfl

set_option maxHeartbeats 400000 in
set_option maxRecDepth 100000 in
theorem disk_new (n : Int) (w : World) (h1 : 1 ≤ n) (h2 : n ≤ 65536) :
    Calls Tryz.prog 17 #[.int .i64 n] w fun e w' => e = .returned (.tuple #[.pointer (some ⟨w.heap.size + 1, 0, none⟩), .int .i64 0]) ∧ DiskAt w' w.heap.size (w.heap.size + 1) n.toNat ∧ Below w.heap.size w w' := by
  have hmk := fun W => mk_secs n (by omega) h2 W
  go_enter Tryz.func17, Tryz.ntmps17
  go_wp2
  go_ret2
  refine ⟨rfl, ⟨w.heap.size, (List.replicate 64 (Value.int .i64 0)).toArray, ⟨by omega, ?_⟩, ⟨by omega, ?_⟩, ?_⟩, ((Below.refl _ _).alloc (Nat.le_refl _) _).alloc (by simp) _⟩
  · rw [← zero_disk]; simpa using heap_alloc_at (w.alloc (Obj.cells (nilPtrs n.toNat) 304)) _
  · rw [heap_alloc_lt _ _ (by simp)]; exact heap_alloc_at _ _
  · simp

set_option maxHeartbeats 400000 in
theorem disk_isOn (d n : Nat) (lo : Nat) (w : World) (h : DiskAt w lo d n) :
    Calls Tryz.prog 49 #[.pointer (some ⟨d, 0, none⟩)] w fun e w' => e = .returned (.bool true) ∧ w = w' := by
  obtain ⟨sb, tr, h1, _, _⟩ := h
  obtain ⟨c0, c1, c2, c5⟩ := disk_row h1.2
  clear h1
  go_enter Tryz.func49, Tryz.ntmps49
  go_wp2
  go_ret
  exact ⟨rfl, rfl⟩

set_option maxHeartbeats 400000 in
theorem disk_reach (d n : Nat) (i : Int) (lo : Nat) (w : World) (h : DiskAt w lo d n) (h0 : 0 ≤ i) (hi : i < n) :
    Calls Tryz.prog 92 #[.pointer (some ⟨d, 0, none⟩), .int .i64 i] w fun e w' => e = .returned (.int .i64 0) ∧ w = w' := by
  obtain ⟨sb, tr, h1, _, _⟩ := h
  obtain ⟨c0, c1, c2, c5⟩ := disk_row h1.2
  clear h1
  go_enter Tryz.func92, Tryz.ntmps92
  go_wp2
  go_ret
  exact ⟨rfl, rfl⟩

set_option maxHeartbeats 400000 in
theorem disk_bytes (d n i : Nat) (lo : Nat) (w : World) (h : DiskAt w lo d n) (hi : i < n) :
    Calls Tryz.prog 108 #[.pointer (some ⟨d, 0, none⟩), .int .i64 i] w fun e w' => e = .returned (.slice (some ⟨w.heap.size, 0, none⟩) 512 512) ∧ w' = w.alloc (.cells (bytes0 512) 5) := by
  have hmk := fun W => mk_bytes 512 (by omega) (by omega) W
  obtain ⟨sb, tr, h1, h2, _⟩ := h
  obtain ⟨c0, c1, c2, c5⟩ := disk_row h1.2
  have hc : w.cell? ⟨sb, i, none⟩ = some (.pointer none) := by rw [row_cells h2.2]; simp [nilPtrs, hi]
  clear h1 h2
  go_enter Tryz.func108, Tryz.ntmps108
  go_wp2
  go_ret
  exact ⟨rfl, rfl⟩

theorem copy_zeros_n (n : Nat) (w : World) (ty : TypeId) : (Builtin.copy_ #[26, 26] ty #[.slice (some ⟨w.heap.size, 0, none⟩) n n, .slice (some ⟨w.heap.size + 1, 0, none⟩) n n]).run Tryz.prog ((w.alloc (.cells (bytes0 n) 5)).alloc (.cells (bytes0 n) 5)) =
    .ok (goInt n) ((w.alloc (.cells (bytes0 n) 5)).alloc (.cells (bytes0 n) 5)) := by
  have e : ((bytes0 n).toList.take 0 ++ (List.replicate n (Value.int .u8 0)) ++ (bytes0 n).toList.drop (0 + (List.replicate n (Value.int .u8 0)).length)).toArray = bytes0 n := by simp [bytes0]
  have hg : ((w.alloc (.cells (bytes0 n) 5)).alloc (.cells (bytes0 n) 5)).heap[w.heap.size]? = some (.cells (bytes0 n) 5 (0, 0)) := by rw [heap_alloc_lt _ _ (by simp)]; exact heap_alloc_at _ _
  have h := run_copy_row (P := Tryz.prog) ((w.alloc (.cells (bytes0 n) 5)).alloc (.cells (bytes0 n) 5)) 26 26 ty 5 w.heap.size 0 n n ⟨w.heap.size + 1, 0, none⟩ n n (bytes0 n) 5 (List.replicate n (Value.int .u8 0)) Tryz.underlying26 (by kernel_rfl)
    hg (by simp) (by
      intro j v hv
      have hj : (⟨w.heap.size + 1, 0, none⟩ : Addr).add j = ⟨w.heap.size + 1, j, none⟩ := by unfold Addr.add; split <;> simp_all
      have := row_cells (w := (w.alloc (.cells (bytes0 n) 5)).alloc (.cells (bytes0 n) 5)) (k := w.heap.size + 1) (cs := bytes0 n) (T := 5) (fz := (0, 0)) (by simpa using heap_alloc_at (w.alloc (.cells (bytes0 n) 5)) (.cells (bytes0 n) 5)) j
      rw [hj, this, ← hv]; unfold bytes0; rw [List.getElem?_toArray]) (by simp [bytes0]) (by simp [Value.oneCell'])
  rw [e, setRow_self _ _ _ _ _ hg] at h
  simpa using h
theorem copy_zeros (w : World) (ty : TypeId) : (Builtin.copy_ #[26, 26] ty #[.slice (some ⟨w.heap.size, 0, none⟩) 512 512, .slice (some ⟨w.heap.size + 1, 0, none⟩) 512 512]).run Tryz.prog ((w.alloc (.cells (bytes0 512) 5)).alloc (.cells (bytes0 512) 5)) =
    .ok (goInt 512) ((w.alloc (.cells (bytes0 512) 5)).alloc (.cells (bytes0 512) 5)) := copy_zeros_n 512 w ty

set_option maxHeartbeats 400000 in
theorem disk_read (d n i : Nat) (lo : Nat) (w : World) (h : DiskAt w lo d n) (hi : i < n) :
    Calls Tryz.prog 68 #[.pointer (some ⟨d, 0, none⟩), .int .i64 i] w fun e w' => e = .returned (.tuple #[.slice (some ⟨w.heap.size, 0, none⟩) 512 512, .int .i64 0]) ∧ At w' w.heap.size w.heap.size (.cells (bytes0 512) 5) ∧ Below w.heap.size w w' := by
  have hmk := fun W => mk_bytes 512 (by omega) (by omega) W
  have hcp := copy_zeros w
  go_enter Tryz.func68, Tryz.ntmps68
  go_wp2_with (first
    | (go_at_call 92; refine (disk_reach d n i lo _ h (by omega) (by omega)).mono ?_; rintro e w1 ⟨rfl, rfl⟩)
    | (go_at_call 108; refine (disk_bytes d n i lo _ (h.keep (Same.alloc _ _ _)) hi).mono ?_; rintro e w1 ⟨rfl, rfl⟩))
  go_ret2
  refine ⟨rfl, (At.new (Nat.le_refl _) _).alloc _, ((Below.refl _ _).alloc (Nat.le_refl _) _).alloc (by simp) _⟩
end Go.Proofs.YtegdpagjloidnaaGreatDoor
