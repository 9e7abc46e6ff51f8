/- The peers of a replica that has one: replica.peers; a sort of one number. -/
import Derived.Test.YtegdpagjloidnaaGreatDoorTake
import Derived.Maps.RangeRun
namespace Go.Proofs.YtegdpagjloidnaaGreatDoor
open Go.RowKit Go.Conc
open Go.ChangeMaps (setBlock)

set_option maxHeartbeats 1000000 in
set_option maxRecDepth 100000 in
theorem bits_len1 (w : World) : Calls Tryz.prog 106 #[.int .u64 1] w fun e w' => e = .returned (.int .i64 1) ∧ w = w' := by
  go_enter Tryz.func106, Tryz.ntmps106
  go_wp2
  go_ret
  refine ⟨?_, rfl⟩
  kernel_rfl

set_option maxHeartbeats 1000000 in
set_option maxRecDepth 100000 in
theorem insertion1 (w : World) (p : Option Addr) (c : Nat) : Calls Tryz.prog 325 #[.slice p 1 c, .int .i64 0, .int .i64 1] w fun e w' => e = .returned (.tuple #[]) ∧ w = w' := by
  go_enter Tryz.func325, Tryz.ntmps325
  go_wp2_with fail
  refine wp_loop_rounds 1 ?_; rw [rounds_succ]
  go_wp2_with fail
  first | go_end0 | refine bodyPost_ret (results_none rfl _ _ _) rfl ?_
  exact ⟨rfl, rfl⟩
set_option maxHeartbeats 1000000 in
set_option maxRecDepth 100000 in
theorem pdq1 (w : World) (p : Option Addr) (c : Nat) : Calls Tryz.prog 282 #[.slice p 1 c, .int .i64 0, .int .i64 1, .int .i64 1] w fun e w' => e = .returned (.tuple #[]) ∧ w = w' := by
  go_enter Tryz.func282, Tryz.ntmps282
  go_wp2_with fail
  refine wp_loop_rounds 1 ?_; rw [rounds_succ]
  go_wp2_with (go_at_call 325; go_loud (refine (insertion1 _ _ _).mono ?_; rintro e w1 ⟨rfl, rfl⟩))
  first | go_end0 | refine bodyPost_ret (results_none rfl _ _ _) rfl ?_
  exact ⟨rfl, rfl⟩
set_option maxHeartbeats 1000000 in
set_option maxRecDepth 100000 in
theorem slices_sort1 (w : World) (p : Option Addr) (c : Nat) : Calls Tryz.prog 225 #[.slice p 1 c] w fun e w' => e = .returned (.tuple #[]) ∧ w = w' := by
  go_enter Tryz.func225, Tryz.ntmps225
  go_wp2_with (first
    | (go_at_call 106; go_loud (refine (bits_len1 _).mono ?_; rintro e w1 ⟨rfl, rfl⟩))
    | (go_at_call 282; go_loud (refine (pdq1 _ _ _).mono ?_; rintro e w1 ⟨rfl, rfl⟩)))
  first | go_end0 | refine bodyPost_ret (results_none rfl _ _ _) rfl ?_
  exact ⟨rfl, rfl⟩
theorem sort_ints1 (w : World) (p : Option Addr) (c : Nat) : Calls Tryz.prog 139 #[.slice p 1 c] w fun e w' => e = .returned (.tuple #[]) ∧ w = w' := by
  go_enter Tryz.func139, Tryz.ntmps139
  go_wp2_with (go_at_call 225; go_loud (refine (slices_sort1 _ _ _).mono ?_; rintro e w1 ⟨rfl, rfl⟩))
  first | go_end0 | refine bodyPost_ret (results_none rfl _ _ _) rfl ?_
  exact ⟨rfl, rfl⟩

section
variable {P : Program} {w : World} {r bm clock : Nat} {e : MapEntry}
theorem run_next_first (hr : w.heap[r]? = some (.mapIter (some bm) clock #[] clock)) (hb : w.heap[bm]? = some (.map #[e] clock)) (he : e.born < clock) (ty : TypeId) :
    (Instr.next (.pointer (some ⟨r, 0, none⟩)) false ty).run P w = .ok (.tuple #[.bool true, e.key, e.val]) (setBlock w r (.mapIter (some bm) clock #[e.born] clock)) := by
  have he' : ¬ clock ≤ e.born := by omega
  simp [Instr.next, getObj, setObj, Sem.run, hr, hb, choose, Question.forced, he, he', setBlock]
theorem run_next_last (hr : w.heap[r]? = some (.mapIter (some bm) clock #[e.born] clock)) (hb : w.heap[bm]? = some (.map #[e] clock)) (he : e.born < clock) (ty : TypeId) :
    (Instr.next (.pointer (some ⟨r, 0, none⟩)) false ty).run P w = .ok (.tuple #[.bool false]) w := by
  have : ¬ clock ≤ e.born := by omega
  simp [Instr.next, getObj, Sem.run, hr, hb, choose, Question.forced, this]
theorem run_entry_first (hr : w.heap[r]? = some (.mapIter (some bm) clock #[e.born] clock)) (hb : w.heap[bm]? = some (.map #[e] clock)) :
    (Instr.entry (.pointer (some ⟨r, 0, none⟩))).run P w = .ok (.tuple #[e.key, e.val]) w := by
  simp [Instr.entry, getObj, Sem.run, hr, hb]
end

theorem mk_ints01 (w : World) : (Instr.makeSlice 67 (.int .i64 0) (.int .i64 1)).run Tryz.prog w = .ok (.slice (some ⟨w.heap.size, 0, none⟩) 0 1) (w.alloc (.cells #[.int .i64 0] 3)) := by
  obtain ⟨i, hi, hz0, hz1, hz2⟩ := info_parts infoI64'
  have h := run_make (P := Tryz.prog) (w := w) 67 3 i (.int .i64 0) Tryz.underlying67 hi hz0 .i64 .i64 0 1 (by omega) (by omega) (by rw [hz2]; omega) (by omega)
  rw [h, hz1, Nat.mul_one, made_rep _ rfl]; rfl

/-- A replica with one peer. -/
structure OneLink (w : World) (R lk la : Nat) (rc : Array Value) (e : MapEntry) (clock : Nat) (peer : Int) : Prop where
  r : At w 0 R (.cells rc 113)
  r11 : rc[11]? = some (.map (some lk))
  m : At w 0 lk (.map #[e] clock)
  k : e.key = .int .i64 peer
  v : e.val = .pointer (some ⟨la, 0, none⟩)
  b : e.born < clock
theorem OneLink.only {w w' : World} {R lk la : Nat} {rc : Array Value} {e : MapEntry} {clock : Nat} {peer : Int} (h : OneLink w R lk la rc e clock peer) (ho : Only (fun _ => False) w w') : OneLink w' R lk la rc e clock peer :=
  { h with r := h.r.only ho id, m := h.m.only ho id }

set_option maxHeartbeats 4000000 in
set_option maxRecDepth 100000 in
theorem replica_peers (w : World) (R lk la : Nat) (rc : Array Value) (en : MapEntry) (clock : Nat) (peer : Int) (h : OneLink w R lk la rc en clock peer) :
    Calls Tryz.prog 81 #[.pointer (some ⟨R, 0, none⟩)] w fun e w' => ∃ g c, e = .returned (.slice (some ⟨g, 0, none⟩) 1 c) ∧ w'.cell? ⟨g, 0, none⟩ = some (.int .i64 peer) ∧ Only (fun _ => False) w w' := by
  have q : w.cell? ⟨R, 11, none⟩ = some (.map (some lk)) := by rw [row_cells h.r.2]; exact h.r11
  have z := h.r.lt
  have zl := h.m.lt
  have hlen := run_len_map (P := Tryz.prog) (t := 102) Tryz.underlying102 h.m.2
  have hmk := mk_ints01 w
  have hr := run_range_map (P := Tryz.prog) (t := 102) Tryz.underlying102 (w := w.alloc (.cells #[.int .i64 0] 3)) (b := lk) (by rw [heap_alloc_lt _ _ zl]; exact h.m.2)
  rw [size_alloc'] at hr
  have a1 : ((w.alloc (.cells #[.int .i64 0] 3)).alloc (.mapIter (some lk) clock #[] clock)).heap[w.heap.size + 1]? = some (.mapIter (some lk) clock #[] clock) := own_new _ _ _ (by rw [size_alloc'])
  have a2 : ((w.alloc (.cells #[.int .i64 0] 3)).alloc (.mapIter (some lk) clock #[] clock)).heap[lk]? = some (.map #[en] clock) := by rw [heap_alloc_lt _ _ (by rw [size_alloc']; omega), heap_alloc_lt _ _ zl]; exact h.m.2
  have a3 : ((w.alloc (.cells #[.int .i64 0] 3)).alloc (.mapIter (some lk) clock #[] clock)).heap[w.heap.size]? = some (.cells #[.int .i64 0] 3) := by rw [heap_alloc_lt _ _ (by rw [size_alloc']; omega)]; exact heap_alloc_at _ _
  have hn1 := fun ty => run_next_first (P := Tryz.prog) a1 a2 h.b ty
  have O1 : Only (fun _ => False) w ((w.alloc (.cells #[.int .i64 0] 3)).alloc (.mapIter (some lk) clock #[] clock)) := ((Only.refl _ w).alloc _).alloc _
  obtain ⟨W2, hW2⟩ : ∃ W2, W2 = setBlock ((w.alloc (.cells #[.int .i64 0] 3)).alloc (.mapIter (some lk) clock #[] clock)) (w.heap.size + 1) (.mapIter (some lk) clock #[en.born] clock) := ⟨_, rfl⟩
  have sb : ∀ k, k ≠ w.heap.size + 1 → W2.heap[k]? = ((w.alloc (.cells #[.int .i64 0] 3)).alloc (.mapIter (some lk) clock #[] clock)).heap[k]? := by
    intro k hk; rw [hW2]; simp only [setBlock]; rw [Array.getElem?_setIfInBounds_ne (by omega)]
  have sz : W2.heap.size = w.heap.size + 2 := by rw [hW2]; simp [setBlock]
  have b1 : W2.heap[w.heap.size + 1]? = some (.mapIter (some lk) clock #[en.born] clock) := by rw [hW2]; simp [setBlock]
  have b2 : W2.heap[lk]? = some (.map #[en] clock) := by rw [sb lk (by omega)]; exact a2
  have b3 : W2.heap[w.heap.size]? = some (.cells #[.int .i64 0] 3) := by rw [sb _ (by omega)]; exact a3
  have O2 : Only (fun _ => False) w W2 := ⟨by rw [hW2]; rfl, by rw [hW2]; rfl, by rw [hW2]; rfl, by omega, fun k hk _ => by rw [sb k (by omega)]; exact O1.block k hk id⟩
  rw [← hW2] at hn1
  rw [h.k, h.v] at hn1
  have he2 := run_entry_first (P := Tryz.prog) b1 b2
  rw [h.k, h.v] at he2
  have own2 : W2.ownsRow w.heap.size 3 1 (.slice (some ⟨w.heap.size, 0, none⟩) 0 1) 0 [] := ⟨rfl, Or.inr ⟨w.heap.size, 1, #[.int .i64 0], rfl, Nat.le_refl _, b3, by omega, by unfold maxLen; omega, rfl, rfl⟩⟩
  obtain ⟨v9, W9, e9, o9, g9⟩ := run_app_int (W := W2.alloc (.cells #[.int .i64 peer] 3)) (S := W2.heap.size) (x := .int .i64 peer) (own2.alloc _) (heap_alloc_at _ _) rfl (by omega) (by rw [size_alloc']; omega)
  obtain ⟨g, c, rfl⟩ := Joins.ownsRow_form o9 (by omega)
  have k9 : ∀ k, k < W2.heap.size → k ≠ w.heap.size → W9.heap[k]? = W2.heap[k]? := fun k hk hne => by
    rw [g9.block k (by rw [size_alloc']; omega) (by simp [Value.ownBlock]; omega), heap_alloc_lt _ _ hk]
  have d1 : W9.heap[w.heap.size + 1]? = some (.mapIter (some lk) clock #[en.born] clock) := by rw [k9 _ (by omega) (by omega)]; exact b1
  have d2 : W9.heap[lk]? = some (.map #[en] clock) := by rw [k9 _ (by omega) (by omega)]; exact b2
  have hn9 := fun ty => run_next_last (P := Tryz.prog) d1 d2 h.b ty
  have O9 : Only (fun _ => False) w W9 := (O2.alloc _).grown g9 (by intro k hk; simp [Value.ownBlock] at hk; omega)
  have c9 : W9.cell? ⟨g, 0, none⟩ = some (.int .i64 peer) := by have := o9.cellAt 0 (by omega); simpa using this
  have sz9 : W2.heap.size = w.heap.size + 2 := sz
  have HE := Lib.hid e9
  have HF := Lib.hid (And.intro c9 O9)
  have H := Lib.hid h
  have HSZ := Lib.hid sz
  clear h a1 a2 a3 O1 hW2 sb sz b1 b2 b3 O2 own2 e9 o9 g9 k9 d1 d2 O9 c9 sz9
  go_enter Tryz.func81, Tryz.ntmps81
  go_wp2_with fail
  refine wp_loop_rounds 2 ?_; rw [rounds_succ]
  go_wp2_with (at_builtin; go_loud (refine wpList_of_append rfl _ _ _ _ rfl _ _ rfl (by rfl) HE.out ?_))
  rw [rounds_succ]
  go_wp2_with (go_at_call 139; go_loud (refine (sort_ints1 _ _ _).mono ?_; rintro e w1 ⟨rfl, rfl⟩))
  go_ret
  exact ⟨g, c, rfl, HF.out.1, HF.out.2⟩
end Go.Proofs.YtegdpagjloidnaaGreatDoor
