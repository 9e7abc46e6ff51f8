/- What the News of the lower layers make. -/
import Derived.Test.YtegdpagjloidnaaGreatDoorMem
namespace Go.Proofs.YtegdpagjloidnaaGreatDoor
open Go.RowKit Go.Conc

theorem bytesParcel : ∃ i, Tryz.prog.info? 239 = some i ∧ i.bytes = 32 := by
  have h : (Tryz.prog.info? 239).map (·.bytes) = some 32 := by kernel_rfl
  obtain ⟨i, hi, hb⟩ := Option.map_eq_some_iff.1 h
  exact ⟨i, hi, hb⟩
theorem infoInt : (Tryz.prog.info? 3).map (fun i => (i.zero, i.size, i.bytes)) = some (some (.int .i64 0), 1, 8) := by kernel_rfl

theorem mk_chan (n : Int) (h0 : 0 ≤ n) (h1 : n ≤ 16) (w : World) : (Instr.makeChan 168 (.int .i64 n)).run Tryz.prog w = .ok (.chan (some w.heap.size)) (w.alloc (.chan n.toNat #[] false 0 0 false)) := by
  obtain ⟨i, hi, hb⟩ := bytesParcel
  obtain ⟨n, rfl⟩ := Int.eq_ofNat_of_zero_le h0
  simpa using run_makeChan (P := Tryz.prog) (w := w) Tryz.underlying168 hi .i64 n (by omega) (by rw [hb]; omega)

/-- 'n' zeros. -/
def zeros (n : Int) : Array Value := (List.replicate n.toNat (Value.int .i64 0)).toArray
theorem made_zeros (k : Nat) : madeCells (Value.int IntKind.i64 0).cells k = (List.replicate k (Value.int .i64 0)).toArray := by
  apply Array.ext
  · simp [madeCells]
  · intro j h1 h2; simp [madeCells, Value.cells, Nat.mod_one]
theorem mk_ints (n : Int) (h0 : 0 ≤ n) (h1 : n ≤ 4096) (w : World) : (Instr.makeSlice 67 (.int .i64 n) (.int .i64 n)).run Tryz.prog w = .ok (.slice (some ⟨w.heap.size, 0, none⟩) n.toNat n.toNat) (w.alloc (.cells (zeros n) 3)) := by
  obtain ⟨i, hi, hz0, hz1, hz2⟩ := info_parts infoInt
  have h := run_make (P := Tryz.prog) (w := w) 67 3 i (.int .i64 0) Tryz.underlying67 hi hz0 .i64 .i64 n n h0 (Int.le_refl _) (by rw [hz2]; omega) (by omega)
  rw [h, hz1, Nat.mul_one, made_zeros]; rfl

/-! ### link.New -/
def linkCells (me peer win res : Int) (c m : Nat) : Array Value :=
  #[.int .i64 me, .int .i64 peer, .int .i64 win, .int .i64 res, .chan (some c), .slice none 0 0, .int .i64 0, .int .i64 0, .int .i64 1, .map (some m), .bool false, .bool false, .int .i64 0]
/-- A link to which nothing has been said yet. -/
def LinkAt (w : World) (lo a : Nat) (me peer win res : Int) : Prop :=
  ∃ c m, At w lo a (.cells (linkCells me peer win res c m) 172) ∧ At w lo c (.chan win.toNat #[] false 0 0 false) ∧ At w lo m (.map #[] 0)
theorem LinkAt.keep {w w' : World} {lo a : Nat} {me peer win res : Int} (h : LinkAt w lo a me peer win res) (hs : Same lo w w') : LinkAt w' lo a me peer win res := by
  obtain ⟨c, m, h1, h2, h3⟩ := h; exact ⟨c, m, h1.keep hs, h2.keep hs, h3.keep hs⟩

theorem LinkAt.mono {w : World} {lo lo' a : Nat} {me peer win res : Int} (h : LinkAt w lo a me peer win res) (hl : lo' ≤ lo) : LinkAt w lo' a me peer win res := by
  obtain ⟨c, m, h1, h2, h3⟩ := h; exact ⟨c, m, h1.mono hl, h2.mono hl, h3.mono hl⟩

set_option maxHeartbeats 400000 in
theorem link_new (me peer win res : Int) (w : World) (h1 : 0 ≤ me) (h2 : me < 16) (h3 : 0 ≤ peer) (h4 : peer < 16) (hne : (me == peer) = false) (h5 : 1 ≤ win) (h6 : win ≤ 16) (h7 : 1 ≤ res) (h8 : res ≤ 1000) :
    Calls Tryz.prog 43 #[.int .i64 me, .int .i64 peer, .int .i64 win, .int .i64 res] w fun e w' =>
      e = .returned (.tuple #[.pointer (some ⟨w.heap.size + 2, 0, none⟩), .int .i64 0]) ∧ LinkAt w' w.heap.size (w.heap.size + 2) me peer win res ∧ w'.heap.size = w.heap.size + 3 ∧ Below w.heap.size w w' := by
  have hmc := fun W => mk_chan win (by omega) h6 W
  have hmm := @run_makeMap Tryz.prog
  go_enter Tryz.func43, Tryz.ntmps43
  go_wp2
  go_ret2
  refine ⟨rfl, ⟨w.heap.size, w.heap.size + 1, ⟨by omega, ?_⟩, ⟨by omega, ?_⟩, ⟨by omega, ?_⟩⟩, by simp, (((Below.refl _ _).alloc (Nat.le_refl _) _).alloc (by simp) _).alloc (by simp; omega) _⟩
  · simpa [linkCells] using heap_alloc_at ((w.alloc (Obj.chan win.toNat #[] false 0 0 false)).alloc (Obj.map #[] 0)) _
  · rw [heap_alloc_lt _ _ (by simp; omega), heap_alloc_lt _ _ (by simp)]; exact heap_alloc_at _ _
  · rw [heap_alloc_lt _ _ (by simp)]; simpa using heap_alloc_at (w.alloc (Obj.chan win.toNat #[] false 0 0 false)) (Obj.map #[] 0)

/-! ### names.New -/
def NamesAt (w : World) (lo a : Nat) (me n per : Int) : Prop :=
  ∃ b m, At w lo a (.cells #[.int .i64 me, .int .i64 n, .int .i64 per, .slice none 0 0, .slice (some ⟨b, 0, none⟩) n.toNat n.toNat, .map (some m)] 176) ∧ At w lo b (.cells (zeros n) 3) ∧ At w lo m (.map #[] 0)
theorem NamesAt.mono {w : World} {lo lo' a : Nat} {me n per : Int} (h : NamesAt w lo a me n per) (hl : lo' ≤ lo) : NamesAt w lo' a me n per := by
  obtain ⟨c, m, h1, h2, h3⟩ := h; exact ⟨c, m, h1.mono hl, h2.mono hl, h3.mono hl⟩
theorem NamesAt.keep {w w' : World} {lo a : Nat} {me n per : Int} (h : NamesAt w lo a me n per) (hs : Same lo w w') : NamesAt w' lo a me n per := by
  obtain ⟨c, m, h1, h2, h3⟩ := h; exact ⟨c, m, h1.keep hs, h2.keep hs, h3.keep hs⟩

set_option maxHeartbeats 400000 in
theorem names_new (me n per : Int) (w : World) (h1 : 0 ≤ me) (h2 : me < n) (h3 : 2 ≤ n) (h4 : n ≤ 16) (h5 : 1 ≤ per) (h6 : per ≤ 4) :
    Calls Tryz.prog 44 #[.int .i64 me, .int .i64 n, .int .i64 per] w fun e w' =>
      e = .returned (.tuple #[.pointer (some ⟨w.heap.size + 2, 0, none⟩), .int .i64 0]) ∧ NamesAt w' w.heap.size (w.heap.size + 2) me n per ∧ Below w.heap.size w w' := by
  have hmc := fun W => mk_ints n (by omega) (by omega) W
  have hmm := @run_makeMap Tryz.prog
  go_enter Tryz.func44, Tryz.ntmps44
  go_wp2
  go_ret2
  refine ⟨rfl, ⟨w.heap.size, w.heap.size + 1, ⟨by omega, ?_⟩, ⟨by omega, ?_⟩, ⟨by omega, ?_⟩⟩, (((Below.refl _ _).alloc (Nat.le_refl _) _).alloc (by simp) _).alloc (by simp; omega) _⟩
  · simpa using heap_alloc_at ((w.alloc (Obj.cells (zeros n) 3)).alloc (Obj.map #[] 0)) _
  · rw [heap_alloc_lt _ _ (by simp; omega), heap_alloc_lt _ _ (by simp)]; exact heap_alloc_at _ _
  · rw [heap_alloc_lt _ _ (by simp)]; simpa using heap_alloc_at (w.alloc (Obj.cells (zeros n) 3)) (Obj.map #[] 0)

/-! ### views.New -/
def ViewsAt (w : World) (lo a : Nat) (me n : Int) : Prop :=
  ∃ m b, At w lo a (.cells #[.int .i64 me, .int .i64 n, .map (some m), .slice (some ⟨b, 0, none⟩) n.toNat n.toNat] 190) ∧ At w lo b (.cells (zeros n) 3) ∧ At w lo m (.map #[] 0)
theorem ViewsAt.mono {w : World} {lo lo' a : Nat} {me n : Int} (h : ViewsAt w lo a me n) (hl : lo' ≤ lo) : ViewsAt w lo' a me n := by
  obtain ⟨c, m, h1, h2, h3⟩ := h; exact ⟨c, m, h1.mono hl, h2.mono hl, h3.mono hl⟩
theorem ViewsAt.keep {w w' : World} {lo a : Nat} {me n : Int} (h : ViewsAt w lo a me n) (hs : Same lo w w') : ViewsAt w' lo a me n := by
  obtain ⟨c, m, h1, h2, h3⟩ := h; exact ⟨c, m, h1.keep hs, h2.keep hs, h3.keep hs⟩

set_option maxHeartbeats 400000 in
theorem views_new (me n : Int) (w : World) (h1 : 0 ≤ me) (h2 : me < n) (h3 : 2 ≤ n) (h4 : n ≤ 16) :
    Calls Tryz.prog 46 #[.int .i64 me, .int .i64 n] w fun e w' =>
      e = .returned (.tuple #[.pointer (some ⟨w.heap.size + 2, 0, none⟩), .int .i64 0]) ∧ ViewsAt w' w.heap.size (w.heap.size + 2) me n ∧ Below w.heap.size w w' := by
  have hmc := fun W => mk_ints n (by omega) (by omega) W
  have hmm := @run_makeMap Tryz.prog
  go_enter Tryz.func46, Tryz.ntmps46
  go_wp2
  go_ret2
  refine ⟨rfl, ⟨w.heap.size, w.heap.size + 1, ⟨by omega, ?_⟩, ⟨by omega, ?_⟩, ⟨by omega, ?_⟩⟩, (((Below.refl _ _).alloc (Nat.le_refl _) _).alloc (by simp) _).alloc (by simp; omega) _⟩
  · simpa using heap_alloc_at ((w.alloc (Obj.map #[] 0)).alloc (Obj.cells (zeros n) 3)) _
  · rw [heap_alloc_lt _ _ (by simp)]; simpa using heap_alloc_at (w.alloc (Obj.map #[] 0)) (Obj.cells (zeros n) 3)
  · rw [heap_alloc_lt _ _ (by simp; omega), heap_alloc_lt _ _ (by simp)]; exact heap_alloc_at _ _

/-! ### gossip.New -/
def GossipAt (w : World) (lo a : Nat) (me n : Int) : Prop :=
  ∃ m, At w lo a (.cells #[.int .i64 me, .int .i64 n, .map (some m)] 195) ∧ At w lo m (.map #[] 0)
theorem GossipAt.mono {w : World} {lo lo' a : Nat} {me n : Int} (h : GossipAt w lo a me n) (hl : lo' ≤ lo) : GossipAt w lo' a me n := by
  obtain ⟨m, h1, h2⟩ := h; exact ⟨m, h1.mono hl, h2.mono hl⟩
theorem GossipAt.keep {w w' : World} {lo a : Nat} {me n : Int} (h : GossipAt w lo a me n) (hs : Same lo w w') : GossipAt w' lo a me n := by
  obtain ⟨m, h1, h2⟩ := h; exact ⟨m, h1.keep hs, h2.keep hs⟩

set_option maxHeartbeats 400000 in
theorem gossip_new (me n : Int) (w : World) (h1 : 0 ≤ me) (h2 : me < n) (h3 : 2 ≤ n) (h4 : n ≤ 16) :
    Calls Tryz.prog 47 #[.int .i64 me, .int .i64 n] w fun e w' =>
      e = .returned (.tuple #[.pointer (some ⟨w.heap.size + 1, 0, none⟩), .int .i64 0]) ∧ GossipAt w' w.heap.size (w.heap.size + 1) me n ∧ Below w.heap.size w w' := by
  have hmm := @run_makeMap Tryz.prog
  have d1 : decide (me < 0) = false := by simp; omega
  have d2 : decide (n ≤ me) = false := by simp; omega
  go_enter Tryz.func47, Tryz.ntmps47
  go_wp2
  go_quiet (fail)
  go_wp2
  go_ret2
  refine ⟨rfl, ⟨w.heap.size, ⟨by omega, ?_⟩, ⟨by omega, ?_⟩⟩, Below.drewN' (((Below.refl _ _).alloc (Nat.le_refl _) _).alloc (by simp) _) _⟩
  · rw [heap_drewN]; simpa using heap_alloc_at (w.alloc (Obj.map #[] 0)) _
  · rw [heap_drewN, heap_alloc_lt _ _ (by simp)]; exact heap_alloc_at _ _

/-! ### wheel.New -/
noncomputable def wheelCells (m : Nat) : Array Value := (Tryz.zeroCells200.setIfInBounds 64 (.int .i64 64)).setIfInBounds 65 (.map (some m))
def WheelAt (w : World) (lo a : Nat) : Prop := ∃ m, At w lo a (.cells (wheelCells m) 200) ∧ At w lo m (.map #[] 0)
theorem WheelAt.mono {w : World} {lo lo' a : Nat}  (h : WheelAt w lo a) (hl : lo' ≤ lo) : WheelAt w lo' a := by
  obtain ⟨m, h1, h2⟩ := h; exact ⟨m, h1.mono hl, h2.mono hl⟩
theorem WheelAt.keep {w w' : World} {lo a : Nat} (h : WheelAt w lo a) (hs : Same lo w w') : WheelAt w' lo a := by
  obtain ⟨m, h1, h2⟩ := h; exact ⟨m, h1.keep hs, h2.keep hs⟩

set_option maxHeartbeats 400000 in
theorem wheel_new (w : World) :
    Calls Tryz.prog 48 #[.int .i64 64] w fun e w' =>
      e = .returned (.tuple #[.pointer (some ⟨w.heap.size + 1, 0, none⟩), .int .i64 0]) ∧ WheelAt w' w.heap.size (w.heap.size + 1) ∧ Below w.heap.size w w' := by
  have hmm := @run_makeMap Tryz.prog
  go_enter Tryz.func48, Tryz.ntmps48
  go_wp2
  go_ret2
  refine ⟨rfl, ⟨w.heap.size, ⟨by omega, ?_⟩, ⟨by omega, ?_⟩⟩, ((Below.refl _ _).alloc (Nat.le_refl _) _).alloc (by simp) _⟩
  · unfold wheelCells; simpa using heap_alloc_at (w.alloc (Obj.map #[] 0)) _
  · rw [heap_alloc_lt _ _ (by simp)]; exact heap_alloc_at _ _

end Go.Proofs.YtegdpagjloidnaaGreatDoor
