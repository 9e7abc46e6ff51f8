/- Blocks of a world by their number: what stays where other blocks are written, and what the walk asks of a row of cells. -/
import Derived.Test.YtegdpagjloidnaaGreatDoorProg
import Derived.Test.YtegdpagjloidnaaGreatDoorGen
namespace Go.Proofs.YtegdpagjloidnaaGreatDoor
open Go.RowKit Go.Conc

/-- Block k, which is lo or above, holds this object. -/
def At (w : World) (lo k : Nat) (o : Obj) : Prop := lo ≤ k ∧ w.heap[k]? = some o

/-- What lies at lo or above is as it was. -/
def Same (lo : Nat) (w w' : World) : Prop := w.heap.size ≤ w'.heap.size ∧ ∀ k, lo ≤ k → k < w.heap.size → w'.heap[k]? = w.heap[k]?

theorem lt_of_heap {w : World} {k : Nat} {o : Obj} (h : w.heap[k]? = some o) : k < w.heap.size := (Array.getElem?_eq_some_iff.1 h).1
theorem At.lt {w : World} {lo k : Nat} {o : Obj} (h : At w lo k o) : k < w.heap.size := lt_of_heap h.2
theorem At.keep {w w' : World} {lo k : Nat} {o : Obj} (h : At w lo k o) (hs : Same lo w w') : At w' lo k o :=
  ⟨h.1, by rw [hs.2 k h.1 h.lt]; exact h.2⟩
theorem At.mono {w : World} {lo lo' k : Nat} {o : Obj} (h : At w lo k o) (hl : lo' ≤ lo) : At w lo' k o := ⟨Nat.le_trans hl h.1, h.2⟩

theorem At.alloc {w : World} {lo k : Nat} {o : Obj} (h : At w lo k o) (o' : Obj) : At (w.alloc o') lo k o := ⟨h.1, by rw [Below.heap_alloc _ _ _ h.lt]; exact h.2⟩
theorem At.new {w : World} {lo : Nat} (h : lo ≤ w.heap.size) (o : Obj) : At (w.alloc o) lo w.heap.size o := ⟨h, heap_alloc_new w o⟩

theorem At.new' {w : World} {lo k : Nat} (h : lo ≤ w.heap.size) (hk : k = w.heap.size) (o : Obj) : At (w.alloc o) lo k o := by subst hk; exact At.new h o

theorem Same.refl (lo : Nat) (w : World) : Same lo w w := ⟨Nat.le_refl _, fun _ _ _ => rfl⟩
theorem Same.trans {lo : Nat} {a b c : World} (h : Same lo a b) (k : Same lo b c) : Same lo a c :=
  ⟨Nat.le_trans h.1 k.1, fun i hl hi => (k.2 i hl (Nat.lt_of_lt_of_le hi h.1)).trans (h.2 i hl hi)⟩
theorem Same.mono {lo lo' : Nat} {w w' : World} (h : Same lo w w') (hl : lo ≤ lo') : Same lo' w w' := ⟨h.1, fun k hk hi => h.2 k (Nat.le_trans hl hk) hi⟩
theorem Same.below {lo B : Nat} {w w' : World} (h : Below B w w') (hB : w.heap.size ≤ B) : Same lo w w' := ⟨h.size, fun k _ hk => h.block k (by omega)⟩
theorem Same.setCell {lo : Nat} (w : World) {b : Nat} (h : b < lo) (o : Nat) (s : Option Nat) (v : Value) : Same lo w (w.setCell ⟨b, o, s⟩ v) :=
  ⟨by simp [World.setCell], fun k hk _ => Below.heap_setCell _ _ _ _ (by show k ≠ b; omega)⟩
theorem Same.alloc (lo : Nat) (w : World) (o : Obj) : Same lo w (w.alloc o) := ⟨by simp, fun k _ hk => Below.heap_alloc _ _ _ hk⟩
theorem Same.drew (lo : Nat) (w : World) : Same lo w w.drew := ⟨Nat.le_refl _, fun _ _ _ => rfl⟩

theorem At.setCell {w : World} {lo k : Nat} {cs : Array Value} {T : TypeId} {fz : Nat × Nat} (h : At w lo k (.cells cs T fz)) (i : Nat) (v : Value) : At (w.setCell ⟨k, i, none⟩ v) lo k (.cells (cs.setIfInBounds i v) T fz) := by
  refine ⟨h.1, ?_⟩
  simp only [World.setCell, Array.getElem?_modify, if_true, h.2]
  rfl
theorem At.setCell_ne {w : World} {lo k b : Nat} {o : Obj} (h : At w lo k o) (hne : k ≠ b) (i : Nat) (s : Option Nat) (v : Value) : At (w.setCell ⟨b, i, s⟩ v) lo k o :=
  ⟨h.1, by rw [Below.heap_setCell _ _ _ _ (by show k ≠ b; exact hne)]; exact h.2⟩
theorem At.drew {w : World} {lo k : Nat} {o : Obj} (h : At w lo k o) : At w.drew lo k o := h
theorem At.below {w w' : World} {lo k B : Nat} {o : Obj} (h : At w lo k o) (hb : Below B w w') (hk : k < B) : At w' lo k o := ⟨h.1, by rw [hb.block k hk]; exact h.2⟩

/-- All cells of a row. -/
theorem row_cells {w : World} {k : Nat} {cs : Array Value} {T : TypeId} {fz : Nat × Nat} (h : w.heap[k]? = some (.cells cs T fz)) (i : Nat) : w.cell? ⟨k, i, none⟩ = cs[i]? := by
  simp [World.cell?, h]
theorem row_free {w : World} {k : Nat} {cs : Array Value} {T : TypeId} (h : w.heap[k]? = some (.cells cs T (0, 0))) (i : Nat) : w.frozen? ⟨k, i, none⟩ = false := by
  simp [World.frozen?, h]
theorem bcell {W w1 : World} {B : Nat} (hb : Below B W w1) : (∀ b o, b < B → w1.cell? ⟨b, o, none⟩ = W.cell? ⟨b, o, none⟩) ∧ (∀ b o, b < B → w1.frozen? ⟨b, o, none⟩ = W.frozen? ⟨b, o, none⟩) :=
  ⟨fun b o h => hb.cell (p := ⟨b, o, none⟩) h, fun b o h => hb.frozen (p := ⟨b, o, none⟩) h⟩

theorem Below.of_drew {B : Nat} {a w : World} (h : Below B a.drew w) : Below B a w := ⟨h.os, h.tape, h.output, h.size, h.block⟩
theorem Below.of_drewN {B : Nat} {a w : World} {n : Nat} (h : Below B (a.drewN n) w) : Below B a w := ⟨h.os, h.tape, h.output, h.size, h.block⟩
theorem size_setCell (w : World) (a : Addr) (v : Value) : (w.setCell a v).heap.size = w.heap.size := by simp [World.setCell]
theorem heap_drewN (w : World) (n : Nat) : (w.drewN n).heap = w.heap := rfl
theorem Below.drewN' {B : Nat} {a w : World} (h : Below B a w) (n : Nat) : Below B a (w.drewN n) := ⟨h.os, h.tape, h.output, h.size, h.block⟩
theorem heap_alloc_at (w : World) (o : Obj) : (w.alloc o).heap[w.heap.size]? = some o := heap_alloc_new w o
theorem heap_alloc_lt (w : World) (o : Obj) {k : Nat} (h : k < w.heap.size) : (w.alloc o).heap[k]? = w.heap[k]? := Below.heap_alloc w o k h

end Go.Proofs.YtegdpagjloidnaaGreatDoor
