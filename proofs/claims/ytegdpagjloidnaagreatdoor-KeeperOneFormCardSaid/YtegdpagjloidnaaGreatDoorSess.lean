/- A session of the cache: how it is found. What changes in few blocks alone. -/
import Derived.Test.YtegdpagjloidnaaGreatDoorAbout
import Derived.Deep.RegionLaw
namespace Go.Proofs.YtegdpagjloidnaaGreatDoor
open Go.RowKit Go.Conc

/-- Of the blocks that there were, only such have turned. -/
structure Only (p : Nat → Prop) (w w' : World) : Prop where
  os : w'.os = w.os
  tape : w'.tape = w.tape
  output : w'.output = w.output
  size : w.heap.size ≤ w'.heap.size
  block : ∀ k, k < w.heap.size → ¬ p k → w'.heap[k]? = w.heap[k]?
theorem Only.refl (p : Nat → Prop) (w : World) : Only p w w := ⟨rfl, rfl, rfl, Nat.le_refl _, fun _ _ _ => rfl⟩
theorem Only.trans {p : Nat → Prop} {a b c : World} (h : Only p a b) (k : Only p b c) : Only p a c :=
  ⟨k.os.trans h.os, k.tape.trans h.tape, k.output.trans h.output, Nat.le_trans h.size k.size, fun i hi hp => (k.block i (Nat.lt_of_lt_of_le hi h.size) hp).trans (h.block i hi hp)⟩
theorem Only.of_below {p : Nat → Prop} {B : Nat} {w w' : World} (h : Below B w w') (hB : w.heap.size ≤ B) : Only p w w' := ⟨h.os, h.tape, h.output, h.size, fun k hk _ => h.block k (by omega)⟩
theorem Only.alloc {p : Nat → Prop} {w w' : World} (h : Only p w w') (o : Obj) : Only p w (w'.alloc o) :=
  ⟨h.os, h.tape, h.output, by rw [size_alloc']; have := h.size; omega, fun k hk hp => by rw [heap_alloc_lt _ _ (by have := h.size; omega)]; exact h.block k hk hp⟩
theorem Only.drew {p : Nat → Prop} {w w' : World} (h : Only p w w') : Only p w w'.drew := ⟨h.os, h.tape, h.output, h.size, h.block⟩
theorem Only.setCell {p : Nat → Prop} {w w' : World} (h : Only p w w') {k : Nat} (hk : p k ∨ w.heap.size ≤ k) (o : Nat) (s : Option Nat) (v : Value) : Only p w (w'.setCell ⟨k, o, s⟩ v) :=
  ⟨h.os, h.tape, h.output, by rw [size_setCell]; exact h.size, fun i hi hp => by
    rw [Below.heap_setCell _ _ _ _ (by show i ≠ k; rintro rfl; rcases hk with hk | hk; exact hp hk; omega)]; exact h.block i hi hp⟩
theorem Only.mono {p q : Nat → Prop} {w w' : World} (h : Only p w w') (hq : ∀ k, k < w.heap.size → p k → q k) : Only q w w' := ⟨h.os, h.tape, h.output, h.size, fun k hk hp => h.block k hk (fun hh => hp (hq k hk hh))⟩
theorem Only.below {p : Nat → Prop} {w w' : World} (h : Only p w w') {B : Nat} (hB : B ≤ w.heap.size) (hp : ∀ k, k < B → ¬ p k) : Below B w w' := ⟨h.os, h.tape, h.output, h.size, fun k hk => h.block k (by omega) (hp k hk)⟩
theorem Only.grown {p : Nat → Prop} {w w' w2 : World} (h : Only p w w') {row : Option Nat} (hg : w'.grownBy w2 row) (hr : ∀ k, row = some k → w.heap.size ≤ k) : Only p w w2 :=
  ⟨hg.os.trans h.os, hg.tape.trans h.tape, hg.output.trans h.output, Nat.le_trans h.size hg.size, fun k hk hp => by
    rw [hg.block k (Nat.lt_of_lt_of_le hk h.size) (fun hh => by have := hr k hh.symm; omega)]; exact h.block k hk hp⟩
theorem At.only {w w' : World} {lo k : Nat} {o : Obj} (h : At w lo k o) {p : Nat → Prop} (hs : Only p w w') (hk : ¬ p k) : At w' lo k o := ⟨h.1, by rw [hs.block k h.lt hk]; exact h.2⟩

theorem own_set_kind {X : World} {base n k o sz : Nat} {e T : TypeId} {v u : Value} {xs : List Value} {cs : Array Value} {fz : Nat × Nat} (ho : X.ownsRow base e sz v n xs) (hk : X.heap[k]? = some (.cells cs T fz)) (hT : T ≠ e) : (X.setCell ⟨k, o, none⟩ u).ownsRow base e sz v n xs := by
  obtain ⟨h1, h2 | ⟨g, cap, cur, rfl, hb, hg, h3⟩⟩ := ho
  · exact ⟨h1, Or.inl h2⟩
  · refine ⟨h1, Or.inr ⟨g, cap, cur, rfl, hb, ?_, h3⟩⟩
    rw [Below.heap_setCell _ _ _ _ ?_]
    · exact hg
    · show g ≠ k
      rintro rfl
      rw [hk] at hg
      simp at hg
      exact hT hg.2.1
/-- Four cells of a row are written. -/
theorem own4 {X : World} {base n S lo sz : Nat} {e T : TypeId} {v : Value} {xs : List Value} {cs : Array Value} (ho : X.ownsRow base e sz v n xs) (hS : At X lo S (.cells cs T)) (hT : T ≠ e) (a0 a1 a2 a3 : Value) :
    ((((X.setCell ⟨S, 0, none⟩ a0).setCell ⟨S, 1, none⟩ a1).setCell ⟨S, 2, none⟩ a2).setCell ⟨S, 3, none⟩ a3).ownsRow base e sz v n xs :=
  own_set_kind (own_set_kind (own_set_kind (own_set_kind ho hS.2 hT) (hS.setCell 0 a0).2 hT) ((hS.setCell 0 a0).setCell 1 a1).2 hT) (((hS.setCell 0 a0).setCell 1 a1).setCell 2 a2).2 hT
theorem findIx_mem' {α : Type} [DecidableEq α] {k : α} : ∀ (l : List (α × Value)) (i : Nat), k ∈ l.map (·.1) → ∃ j v, findIx k l i = some (j, v) ∧ (k, v) ∈ l
  | [], _, h => by simp at h
  | (q, v) :: l, i, h => by
    by_cases hk : k = q
    · subst hk; exact ⟨i, v, by simp [findIx], by simp⟩
    · obtain ⟨j, v', h1, h2⟩ := findIx_mem' l (i + 1) (by simpa [hk] using h)
      exact ⟨j, v', by simp only [findIx]; rw [if_neg hk]; exact h1, by simp [h2]⟩

/-- The cache at ca; the session sn of the replica me lies at sa. -/
structure CS (w : World) (ca sa : Nat) (me sn : Int) (rest : Int × Int × Int) : Prop where
  ex : ∃ m es c l j, At w 0 ca (.cells #[.int .i64 me, .int .i64 rest.1, .int .i64 rest.2.1, .int .i64 rest.2.2, .map (some m)] 179) ∧ At w 0 m (.map es c) ∧ Ents pairKey l es.toList ∧ findIx (me, sn) l 0 = some (j, .pointer (some ⟨sa, 0, none⟩))
theorem CS.only {w w' : World} {ca sa : Nat} {me sn : Int} {rest : Int × Int × Int} (h : CS w ca sa me sn rest) {sc : Array Value} (hs : At w 0 sa (.cells sc 185)) (ho : Only (· = sa) w w') : CS w' ca sa me sn rest := by
  obtain ⟨m, es, c, l, j, h1, h2, h3, h4⟩ := h.ex
  refine ⟨m, es, c, l, j, h1.only ho ?_, h2.only ho ?_, h3, h4⟩
  · rintro rfl; have := h1.2; rw [hs.2] at this; simp at this
  · rintro rfl; have := h2.2; rw [hs.2] at this; simp at this
theorem CS.of_at {w w' : World} {ca sa : Nat} {me sn : Int} {rest : Int × Int × Int} (h : CS w ca sa me sn rest) (k : ∀ {i : Nat} {o : Obj}, At w 0 i o → (∀ cs T, o = .cells cs T → T = 179) → At w' 0 i o) : CS w' ca sa me sn rest := by
  obtain ⟨m, es, c, l, j, h1, h2, h3, h4⟩ := h.ex
  exact ⟨m, es, c, l, j, k h1 (by intro cs T hh; simp at hh; exact hh.2.symm), k h2 (by intro cs T hh; simp at hh), h3, h4⟩

theorem infoSessP : (Tryz.prog.info? 180).map (fun i => (i.zero, i.size, i.bytes)) = some (some (.pointer none), 1, 8) := by kernel_rfl
set_option maxHeartbeats 1000000 in
theorem cache_of (w : World) (ca sa : Nat) (me sn : Int) (rest : Int × Int × Int) (h : CS w ca sa me sn rest) :
    Calls Tryz.prog 110 #[.pointer (some ⟨ca, 0, none⟩), .int .i64 sn] w fun e w' => e = .returned (.pointer (some ⟨sa, 0, none⟩)) ∧ w' = w.drew := by
  obtain ⟨m, es, c, l, j, h1, h2, h3, h4⟩ := h.ex
  have q := row_cells h1.2
  have hl : (Instr.lookup 177 (.map (some m)) (pairKey (me, sn)) false).run Tryz.prog w.drew = .ok (.pointer (some ⟨sa, 0, none⟩)) w.drew := by
    have := run_lookup_ents (P := Tryz.prog) (t := 177) (e := 180) (w := w.drew) (z := .pointer none) ckey_law Tryz.underlying177 (run_zero_of infoSessP w.drew) (show w.drew.heap[m]? = _ from h2.2) h3 (me, sn)
    rw [this, h4]; rfl
  unfold pairKey at hl
  clear h1 h2 h3 h4
  go_enter Tryz.func110, Tryz.ntmps110
  go_wp2_with fail
  go_region
  go_wp2_with fail
  go_ret
  exact ⟨rfl, rfl⟩
end Go.Proofs.YtegdpagjloidnaaGreatDoor
