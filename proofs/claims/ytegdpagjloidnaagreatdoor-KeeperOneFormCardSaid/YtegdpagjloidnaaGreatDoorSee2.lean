/- See of a replica that knows no counter. -/
import Derived.Test.YtegdpagjloidnaaGreatDoorSee
import Derived.Deep.CutRange
import Derived.Lib.OwnKind
import Derived.Lib.SmallJoins
namespace Go.Proofs.YtegdpagjloidnaaGreatDoor
open Go.RowKit Go.Conc

theorem LinksAt.keep {w w' : World} {B lo b : Nat} {me win res : Int} {k : Nat} (h : LinksAt w B lo b me win res k) (hs : Same B w w') (hlo : B ≤ lo) : LinksAt w' B lo b me win res k := by
  obtain ⟨l, m1, m2, m3⟩ := h
  exact ⟨l, m1.keep hs, m2, fun p hp => by obtain ⟨a, e1, e2⟩ := m3 p hp; exact ⟨a, e1, e2.keep (hs.mono hlo)⟩⟩
theorem SeeAt.keep {w w' : World} {B : Nat} {c : Cfg} {me drops : Int} {nm ca vw gs : Option Addr} (h : SeeAt w B c me nm ca vw gs drops) (hs : Same B w w') : SeeAt w' B c me nm ca vw gs drops := by
  obtain ⟨wh, h1, h2, h3, h4, h5, h6, h7⟩ := h
  exact ⟨wh, h1.keep hs, h2.keep hs (by omega), h3.keep hs, h4.keep hs, h5.keep hs, h6.keep hs, h7.keep (hs.mono (by omega))⟩
theorem wheel_cell (m : Nat) : (wheelCells m)[66]? = some (.int .i64 0) := by unfold wheelCells; kernel_rfl
set_option maxHeartbeats 400000 in
theorem wheel_now (a lo : Nat) (w : World) (h : WheelAt w lo a) :
    Calls Tryz.prog 60 #[.pointer (some ⟨a, 0, none⟩)] w fun e w' => e = .returned (.int .i64 0) ∧ w = w' := by
  obtain ⟨m, h1, h2⟩ := h
  have c : w.cell? ⟨a, 66, none⟩ = some (.int .i64 0) := by rw [row_cells h1.2]; exact wheel_cell m
  clear h1 h2
  go_enter Tryz.func60, Tryz.ntmps60
  go_wp2
  go_ret
  exact ⟨rfl, rfl⟩

theorem link_row {w : World} {lo a : Nat} {me peer win res : Int} (h : LinkAt w lo a me peer win res) : w.cell? ⟨a, 5, none⟩ = some (.slice none 0 0) ∧ w.cell? ⟨a, 8, none⟩ = some (.int .i64 1) := by
  obtain ⟨c, m, h1, _, _⟩ := h
  exact ⟨by rw [row_cells h1.2]; rfl, by rw [row_cells h1.2]; rfl⟩
set_option maxHeartbeats 400000 in
theorem link_next (a lo : Nat) (me peer win res : Int) (w : World) (h : LinkAt w lo a me peer win res) :
    Calls Tryz.prog 65 #[.pointer (some ⟨a, 0, none⟩)] w fun e w' => e = .returned (.int .i64 1) ∧ w = w' := by
  obtain ⟨c5, c8⟩ := link_row h
  clear h
  go_enter Tryz.func65, Tryz.ntmps65
  go_wp2
  go_ret
  exact ⟨rfl, rfl⟩
set_option maxHeartbeats 400000 in
theorem link_under (a lo : Nat) (me peer win res : Int) (w : World) (h : LinkAt w lo a me peer win res) :
    Calls Tryz.prog 64 #[.pointer (some ⟨a, 0, none⟩)] w fun e w' => e = .returned (.slice none 0 0) ∧ w = w' := by
  obtain ⟨c5, c8⟩ := link_row h
  clear h
  go_enter Tryz.func64, Tryz.ntmps64
  go_wp2
  refine wp_loop_rounds 1 ?_; rw [rounds_succ]
  go_wp2
  go_ret
  exact ⟨rfl, rfl⟩

theorem two_new (w : World) (A B : Obj) : At ((w.alloc A).alloc B).drew w.heap.size (w.heap.size + 1) B ∧ At ((w.alloc A).alloc B).drew w.heap.size w.heap.size A ∧ Below w.heap.size w ((w.alloc A).alloc B).drew ∧ ((w.alloc A).alloc B).drew.heap.size = w.heap.size + 2 := by
  refine ⟨⟨by omega, ?_⟩, ⟨Nat.le_refl _, ?_⟩, ?_, by simp⟩
  · have := heap_alloc_at (w.alloc A) B
    rw [size_alloc'] at this
    exact this
  · have := heap_alloc_lt (w.alloc A) B (k := w.heap.size) (by simp)
    exact this.trans (heap_alloc_at _ _)
  · exact Below.drew (((Below.refl w.heap.size w).alloc (Nat.le_refl _) _).alloc (by simp) _)

theorem kind_ne {w : World} {B : Nat} {e e' : TypeId} {v v' : Value} {n n' : Nat} {xs ys : List Value} (h : w.ownsRow B e 1 v n xs) (h' : w.ownsRow B e' 1 v' n' ys) (hne : e ≠ e') : v.ownBlock = none ∨ v.ownBlock ≠ v'.ownBlock := by
  cases hv : v.ownBlock with
  | none => exact Or.inl rfl
  | some g =>
    refine Or.inr fun hh => ?_
    obtain ⟨c, fz, h1⟩ := Lib.ownsRow_kind h g hv
    obtain ⟨c', fz', h2⟩ := Lib.ownsRow_kind h' g hh.symm
    rw [h1] at h2
    simp only [Option.some.injEq, Obj.cells.injEq] at h2
    exact hne h2.2.1

/-- What See has gathered so far: the rows behind its sight. -/
structure SRow (w0 : World) (X lo : Nat) (drops : Int) (wr : World) (o u nx : Value) (ko ku : Nat) (l : List Value) : Prop where
  row : At wr w0.heap.size X (.cells #[.int .i64 0, .slice none 0 0, o, u, nx, .slice none 0 0, .int .i64 drops] 70)
  o : wr.ownsRow lo 160 1 o ko (List.replicate ko (.slice none 0 0))
  u : wr.ownsRow lo 161 1 u ku (List.replicate ku (.slice none 0 0))
  nx : wr.ownsRow lo 3 1 nx l.length l
  bel : Below w0.heap.size w0 wr
  lo1 : X < lo
  lo2 : lo ≤ wr.heap.size
  res : At wr w0.heap.size w0.heap.size (.cells #[.int .i64 0, .slice none 0 0, .slice none 0 0, .slice none 0 0, .slice none 0 0, .slice none 0 0, .int .i64 0] 70)
  lo3 : w0.heap.size < X

theorem SRow.grow_o {w0 wr w1 : World} {X lo ko ku : Nat} {drops : Int} {o u nx v' : Value} {l : List Value} {A : Obj} (h : SRow w0 X lo drops wr o u nx ko ku l) (hg : (wr.alloc A).grownBy w1 o.ownBlock)
    (ho : w1.ownsRow lo 160 1 v' (ko + 1) (List.replicate ko (.slice none 0 0) ++ [.slice none 0 0])) : SRow w0 X lo drops (w1.setCell ⟨X, 2, none⟩ v') v' u nx (ko + 1) ku l ∧ At w1 w0.heap.size X (.cells #[.int .i64 0, .slice none 0 0, o, u, nx, .slice none 0 0, .int .i64 drops] 70) := by
  have a1 : At w1 w0.heap.size X (.cells #[.int .i64 0, .slice none 0 0, o, u, nx, .slice none 0 0, .int .i64 drops] 70) :=
    ⟨h.row.1, by rw [hg.block X (by simp; have := h.lo1; have := h.lo2; omega) (fun hh => by have := (h.o.lt X hh.symm).1; have := h.lo1; omega)]; rw [heap_alloc_lt _ _ (by have := h.lo1; have := h.lo2; omega)]; exact h.row.2⟩
  have a2 : At w1 w0.heap.size w0.heap.size (.cells #[.int .i64 0, .slice none 0 0, .slice none 0 0, .slice none 0 0, .slice none 0 0, .slice none 0 0, .int .i64 0] 70) :=
    ⟨h.res.1, by rw [hg.block _ (by simp; have := h.lo1; have := h.lo2; have := h.lo3; omega) (fun hh => by have := (h.o.lt _ hh.symm).1; have := h.lo1; have := h.lo3; omega)]; rw [heap_alloc_lt _ _ (by have := h.lo1; have := h.lo2; have := h.lo3; omega)]; exact h.res.2⟩
  refine ⟨⟨a1.setCell 2 v', (by simpa [List.replicate_succ'] using ownsRow_setCell_below ho (a := ⟨X, 2, none⟩) h.lo1 v'), (ownsRow_setCell_below ((h.u.alloc _).kept hg (kind_ne h.u h.o (by decide))) (a := ⟨X, 2, none⟩) h.lo1 v'), (ownsRow_setCell_below ((h.nx.alloc _).kept hg (kind_ne h.nx h.o (by decide))) (a := ⟨X, 2, none⟩) h.lo1 v'), ?_, h.lo1, ?_, a2.setCell_ne (by have := h.lo3; omega) _ _ _, h.lo3⟩, a1⟩
  · exact (((h.bel.alloc (h.bel.size) _).grown hg (by simp; have := h.bel.size; omega) (fun k hk => by have := (h.o.lt k hk).1; have := h.lo1; have := h.row.1; omega)).setCell h.row.1 _)
  · rw [size_setCell]; have z1 := hg.size; rw [size_alloc'] at z1; have := h.lo2; omega

theorem SRow.grow_u {w0 wr w1 : World} {X lo ko ku : Nat} {drops : Int} {o u nx v' : Value} {l : List Value} {A : Obj} (h : SRow w0 X lo drops wr o u nx ko ku l) (hg : (wr.alloc A).grownBy w1 u.ownBlock)
    (ho : w1.ownsRow lo 161 1 v' (ku + 1) (List.replicate ku (.slice none 0 0) ++ [.slice none 0 0])) : SRow w0 X lo drops (w1.setCell ⟨X, 3, none⟩ v') o v' nx ko (ku + 1) l ∧ At w1 w0.heap.size X (.cells #[.int .i64 0, .slice none 0 0, o, u, nx, .slice none 0 0, .int .i64 drops] 70) := by
  have a1 : At w1 w0.heap.size X (.cells #[.int .i64 0, .slice none 0 0, o, u, nx, .slice none 0 0, .int .i64 drops] 70) :=
    ⟨h.row.1, by rw [hg.block X (by simp; have := h.lo1; have := h.lo2; omega) (fun hh => by have := (h.u.lt X hh.symm).1; have := h.lo1; omega)]; rw [heap_alloc_lt _ _ (by have := h.lo1; have := h.lo2; omega)]; exact h.row.2⟩
  have a2 : At w1 w0.heap.size w0.heap.size (.cells #[.int .i64 0, .slice none 0 0, .slice none 0 0, .slice none 0 0, .slice none 0 0, .slice none 0 0, .int .i64 0] 70) :=
    ⟨h.res.1, by rw [hg.block _ (by simp; have := h.lo1; have := h.lo2; have := h.lo3; omega) (fun hh => by have := (h.u.lt _ hh.symm).1; have := h.lo1; have := h.lo3; omega)]; rw [heap_alloc_lt _ _ (by have := h.lo1; have := h.lo2; have := h.lo3; omega)]; exact h.res.2⟩
  refine ⟨⟨a1.setCell 3 v', (ownsRow_setCell_below ((h.o.alloc _).kept hg (kind_ne h.o h.u (by decide))) (a := ⟨X, 3, none⟩) h.lo1 v'), (by simpa [List.replicate_succ'] using ownsRow_setCell_below ho (a := ⟨X, 3, none⟩) h.lo1 v'), (ownsRow_setCell_below ((h.nx.alloc _).kept hg (kind_ne h.nx h.u (by decide))) (a := ⟨X, 3, none⟩) h.lo1 v'), ?_, h.lo1, ?_, a2.setCell_ne (by have := h.lo3; omega) _ _ _, h.lo3⟩, a1⟩
  · exact (((h.bel.alloc (h.bel.size) _).grown hg (by simp; have := h.bel.size; omega) (fun k hk => by have := (h.u.lt k hk).1; have := h.lo1; have := h.row.1; omega)).setCell h.row.1 _)
  · rw [size_setCell]; have z1 := hg.size; rw [size_alloc'] at z1; have := h.lo2; omega

theorem SRow.grow_nx {w0 wr w1 : World} {X lo ko ku : Nat} {drops : Int} {o u nx v' : Value} {l : List Value} {x : Value} {A : Obj} (h : SRow w0 X lo drops wr o u nx ko ku l) (hg : (wr.alloc A).grownBy w1 nx.ownBlock)
    (ho : w1.ownsRow lo 3 1 v' (l.length + 1) (l ++ [x])) : SRow w0 X lo drops (w1.setCell ⟨X, 4, none⟩ v') o u v' ko ku (l ++ [x]) ∧ At w1 w0.heap.size X (.cells #[.int .i64 0, .slice none 0 0, o, u, nx, .slice none 0 0, .int .i64 drops] 70) := by
  have a1 : At w1 w0.heap.size X (.cells #[.int .i64 0, .slice none 0 0, o, u, nx, .slice none 0 0, .int .i64 drops] 70) :=
    ⟨h.row.1, by rw [hg.block X (by simp; have := h.lo1; have := h.lo2; omega) (fun hh => by have := (h.nx.lt X hh.symm).1; have := h.lo1; omega)]; rw [heap_alloc_lt _ _ (by have := h.lo1; have := h.lo2; omega)]; exact h.row.2⟩
  have a2 : At w1 w0.heap.size w0.heap.size (.cells #[.int .i64 0, .slice none 0 0, .slice none 0 0, .slice none 0 0, .slice none 0 0, .slice none 0 0, .int .i64 0] 70) :=
    ⟨h.res.1, by rw [hg.block _ (by simp; have := h.lo1; have := h.lo2; have := h.lo3; omega) (fun hh => by have := (h.nx.lt _ hh.symm).1; have := h.lo1; have := h.lo3; omega)]; rw [heap_alloc_lt _ _ (by have := h.lo1; have := h.lo2; have := h.lo3; omega)]; exact h.res.2⟩
  refine ⟨⟨a1.setCell 4 v', (ownsRow_setCell_below ((h.o.alloc _).kept hg (kind_ne h.o h.nx (by decide))) (a := ⟨X, 4, none⟩) h.lo1 v'), (ownsRow_setCell_below ((h.u.alloc _).kept hg (kind_ne h.u h.nx (by decide))) (a := ⟨X, 4, none⟩) h.lo1 v'), (by simpa [List.replicate_succ'] using ownsRow_setCell_below ho (a := ⟨X, 4, none⟩) h.lo1 v'), ?_, h.lo1, ?_, a2.setCell_ne (by have := h.lo3; omega) _ _ _, h.lo3⟩, a1⟩
  · exact (((h.bel.alloc (h.bel.size) _).grown hg (by simp; have := h.bel.size; omega) (fun k hk => by have := (h.nx.lt k hk).1; have := h.lo1; have := h.row.1; omega)).setCell h.row.1 _)
  · rw [size_setCell]; have z1 := hg.size; rw [size_alloc'] at z1; have := h.lo2; omega

theorem infoMsgs : (Tryz.prog.info? 160).map (fun i => (i.zero, i.size, i.bytes)) = some (some (.slice none 0 0), 1, 24) := by kernel_rfl
theorem infoSegs : (Tryz.prog.info? 161).map (fun i => (i.zero, i.size, i.bytes)) = some (some (.slice none 0 0), 1, 24) := by kernel_rfl
theorem infoI64 : (Tryz.prog.info? 3).map (fun i => (i.zero, i.size, i.bytes)) = some (some (.int .i64 0), 1, 8) := by kernel_rfl

/-- 'append(s, x)' of one cell. -/
theorem wpList_app_one {st e : TypeId} {z : Value} {bytes : Nat} (ht : Tryz.prog.underlying st = some (.slice e)) (hi : (Tryz.prog.info? e).map (fun i => (i.zero, i.size, i.bytes)) = some (some z, 1, bytes)) (hzs : z.cells.size = 1)
    {ops : Array Oper} {rest : List Oper} {o : Oper} {a : Act} {Q : Exit → Act → World → Prop} {w : World} (hgd : o.guard = none) (s x : Operand)
    (ho : o.op = .call { callee := .builtin .append, args := #[s, x], argTypes := #[st, st] }) (base : Nat) (v : Value) (n : Nat) (xs : List Value) (hs : a.eval s = v) (hown : w.ownsRow base e 1 v n xs)
    (y : Value) (S : Nat) (hx : a.eval x = .slice (some ⟨S, 0, none⟩) 1 1) (hS : w.heap.size = S) (h1 : y.oneCell' = true) (hb : (n + 1) * bytes ≤ 140737488355328) (hn : n + 1 ≤ maxLen) (hbase : base ≤ w.heap.size)
    (h : ∀ v' w', w'.ownsRow base e 1 v' (n + 1) (xs ++ [y]) → (w.alloc (.cells #[y] e)).grownBy w' v.ownBlock → wpList Tryz.prog ops Q rest (a.put o.dst v') w') : wpList Tryz.prog ops Q (o :: rest) a (w.alloc (.cells #[y] e)) := by
  subst hS
  obtain ⟨i0, hi, hz0, hz1, hz2⟩ := info_parts hi
  refine wpList_append_own _ hgd s x st ho base e i0 z 1 bytes ht hi hz0 hz1 hz2 hzs (by decide) v n xs hs (hown.alloc _) ⟨w.heap.size, 0, none⟩ 1 1 [y] hx (by simp) ?_ (by simpa using h1) hn hb (by simp; omega) ?_
  · intro j u hj
    rw [addr_add, row_cells (heap_alloc_at w (.cells #[y] e))]; simpa using hj
  · intro v' w' ho' hg _
    exact h v' w' ho' hg

theorem infoLinkP : (Tryz.prog.info? 115).map (fun i => (i.zero, i.size, i.bytes)) = some (some (.pointer none), 1, 8) := by kernel_rfl
theorem run_zero_of {e : TypeId} {z : Value} {n m : Nat} (h : (Tryz.prog.info? e).map (fun i => (i.zero, i.size, i.bytes)) = some (some z, n, m)) (w : World) : (zeroValue e).run Tryz.prog w = .ok z w := by
  obtain ⟨i, hi, hz, _⟩ := info_parts h
  simp [zeroValue, typeInfo, hi, hz]
theorem findIx_mem {k : Int} : ∀ (l : List (Int × Value)) (i : Nat), k ∈ l.map (·.1) → ∃ j v, findIx k l i = some (j, v) ∧ (k, v) ∈ l
  | [], _, h => by simp at h
  | p :: l, i, h => by
    simp only [findIx]
    by_cases hk : k = p.1
    · exact ⟨i, p.2, by rw [if_pos hk], by rw [hk]; simp⟩
    · rw [if_neg hk]
      obtain ⟨j, v, h1, h2⟩ := findIx_mem l (i + 1) (by simpa [hk] using h)
      exact ⟨j, v, h1, by simp [h2]⟩
theorem findIx_none {k : Int} : ∀ (l : List (Int × Value)) (i : Nat), k ∉ l.map (·.1) → findIx k l i = none
  | [], _, _ => rfl
  | p :: l, i, h => by
    simp only [List.map_cons, List.mem_cons, not_or] at h
    simp only [findIx]
    rw [if_neg h.1]
    exact findIx_none l (i + 1) h.2
theorem mem_others {me : Int} {k n : Nat} : (k : Int) ∈ others me n ↔ k < n ∧ (k : Int) ≠ me := by
  simp only [others, List.mem_filter, List.mem_map, List.mem_range]
  constructor
  · rintro ⟨⟨j, h1, h2⟩, h3⟩; exact ⟨by omega, by simpa using h3⟩
  · rintro ⟨h1, h2⟩; exact ⟨⟨k, h1, rfl⟩, by simpa using h2⟩

theorem link_at {w : World} {B lo b : Nat} {me win res : Int} {n : Nat} (h : LinksAt w B lo b me win res n) (k : Nat) :
    if k < n ∧ (k : Int) ≠ me then ∃ a, LinkAt w lo a me k win res ∧ (Instr.lookup 102 (.map (some b)) (.int .i64 k) false).run Tryz.prog w = .ok (.pointer (some ⟨a, 0, none⟩)) w
    else (Instr.lookup 102 (.map (some b)) (.int .i64 k) false).run Tryz.prog w = .ok (.pointer none) w := by
  obtain ⟨l, ⟨es, cl, m1, m2, m3⟩, hl, hp⟩ := h
  have hlk := run_lookup_ents (P := Tryz.prog) (t := 102) (e := 115) (w := w) (z := .pointer none) link_law Tryz.underlying102 (run_zero_of infoLinkP w) m1.2 m2 (k : Int)
  split
  · rename_i hc
    obtain ⟨j, v, h1, h2⟩ := findIx_mem l 0 (by rw [hl]; exact mem_others.2 hc)
    obtain ⟨a, ha, hla⟩ := hp _ h2
    refine ⟨a, hla, ?_⟩
    rw [hlk, h1]; simp only [Option.map_some, Option.getD_some]
    exact congrArg (fun x => Result.ok x w) ha
  · rename_i hc
    rw [hlk, findIx_none l 0 (by rw [hl]; exact fun h => hc (mem_others.1 h))]
    rfl

theorem own_below {w w' : World} {base n B : Nat} {e : TypeId} {v : Value} {xs : List Value} (h : w.ownsRow base e 1 v n xs) (hb : Below B w w') (hB : w.heap.size ≤ B) : w'.ownsRow base e 1 v n xs :=
  h.kept ⟨hb.os, hb.tape, hb.output, hb.size, fun k hk _ => hb.block k (by omega)⟩ (row := none) (by cases v.ownBlock <;> simp)
theorem own7 {w : World} {base n Y : Nat} {e : TypeId} {v : Value} {xs : List Value} (h : w.ownsRow base e 1 v n xs) (hY : Y < base) (a0 a1 a2 a3 a4 a5 a6 : Value) :
    (((((((w.setCell ⟨Y, 0, none⟩ a0).setCell ⟨Y, 1, none⟩ a1).setCell ⟨Y, 2, none⟩ a2).setCell ⟨Y, 3, none⟩ a3).setCell ⟨Y, 4, none⟩ a4).setCell ⟨Y, 5, none⟩ a5).setCell ⟨Y, 6, none⟩ a6).ownsRow base e 1 v n xs := by
  exact (ownsRow_setCell_below (ownsRow_setCell_below (ownsRow_setCell_below (ownsRow_setCell_below (ownsRow_setCell_below (ownsRow_setCell_below (ownsRow_setCell_below h (a := ⟨Y, 0, none⟩) hY a0) (a := ⟨Y, 1, none⟩) hY a1) (a := ⟨Y, 2, none⟩) hY a2) (a := ⟨Y, 3, none⟩) hY a3) (a := ⟨Y, 4, none⟩) hY a4) (a := ⟨Y, 5, none⟩) hY a5) (a := ⟨Y, 6, none⟩) hY a6)

/-- The numbers that come next: of a new replica. -/
def nexts (me : Int) (k : Nat) : List Value := (List.range k).map fun j : Nat => Value.int .i64 (if (j : Int) = me then 0 else 1)
theorem nexts_len (me : Int) (k : Nat) : (nexts me k).length = k := by simp [nexts]
theorem nexts_me {me : Int} {k : Nat} (h : (k : Int) = me) : nexts me (k + 1) = nexts me k ++ [.int .i64 0] := by simp [nexts, List.range_succ, h]
theorem nexts_ne {me : Int} {k : Nat} (h : ¬ (k : Int) = me) : nexts me (k + 1) = nexts me k ++ [.int .i64 1] := by simp [nexts, List.range_succ, h]

set_option maxHeartbeats 2000000 in
set_option maxRecDepth 100000 in
theorem see0 (B : Nat) (c : Cfg) (me drops : Int) (nm ca vw gs : Option Addr) (w : World) (h : SeeAt w B c me nm ca vw gs drops) (hc : c.Right) :
    Calls Tryz.prog 39 #[.pointer (some ⟨B + 7, 0, none⟩)] w fun e w' => ∃ o u nx, e = .returned (.agg #[.int .i64 0, .slice none 0 0, o, u, nx, .slice none 0 0, .int .i64 drops]) ∧ w'.ownsRow (w.heap.size + 2) 160 1 o c.rep.toNat (List.replicate c.rep.toNat (.slice none 0 0)) ∧
      w'.ownsRow (w.heap.size + 2) 161 1 u c.rep.toNat (List.replicate c.rep.toNat (.slice none 0 0)) ∧ w'.ownsRow (w.heap.size + 2) 3 1 nx c.rep.toNat (nexts me c.rep.toNat) ∧ Below w.heap.size w w' := by
  have HS := Lib.hid h
  obtain ⟨wh, h1, h2, h3, h4, h5, h6, h7⟩ := h
  have q := row_cells h1.2
  have z1 := h1.lt
  unfold repCells at q
  have HW := Lib.hid h7
  clear h1 h2 h3 h4 h5 h6 h7
  go_enter Tryz.func39, Tryz.ntmps39
  go_wp2
  go_upto_region 1 with fail
  go_cut [3] from 15 to 24 (fun v3 wx => v3 = .pointer (some ⟨w.heap.size + 1, 0, none⟩) ∧ At wx w.heap.size (w.heap.size + 1) (.cells #[.int .i64 0, .slice none 0 0, .slice none 0 0, .slice none 0 0, .slice none 0 0, .slice none 0 0, .int .i64 drops] 70) ∧ At wx w.heap.size w.heap.size (.cells #[.int .i64 0, .slice none 0 0, .slice none 0 0, .slice none 0 0, .slice none 0 0, .slice none 0 0, .int .i64 0] 70) ∧ Below w.heap.size w wx ∧ wx.heap.size = w.heap.size + 2)
  case first =>
    go_region_with (go_at_call 60; refine (wheel_now wh (B + 9) _ (by first | exact HW.out.keep ((Same.alloc _ _ _).trans (Same.drew _ _)) | exact HW.out.keep (((Same.alloc _ _ _).trans (Same.alloc _ _ _)).trans (Same.drew _ _)) | exact HW.out.keep ((((Same.alloc _ _ _).trans (Same.alloc _ _ _)).trans (Same.setCell _ (by omega) _ _ _)).trans (Same.drew _ _)))).mono ?_; rintro e w1 ⟨rfl, rfl⟩)
    all_goals (go_wp2_with fail; go_meet)
    all_goals exact ⟨rfl, two_new _ _ _⟩
  case rest =>
    obtain ⟨rfl, p1, p2, p3, p4⟩ := hcut
    have HS2 := Lib.hid (HS.out.keep (Same.below p3 (Nat.le_refl _)))
    have HP := Lib.hid (And.intro p1 (And.intro p2 (And.intro p3 p4)))
    have HS0 := HS
    clear p1 p2 p3 p4 HS q
    go_wp2_with (go_at_call 61; refine (known0 _ _ _ _ _ _ _ _ wc HS2.out).mono ?_; rintro e w1 ⟨pk, rfl, hb⟩)
    have hs1 : SeeAt w1 B c me nm ca vw gs drops := HS2.out.keep (Same.below hb (Nat.le_refl _))
    have hS : SRow w (w.heap.size + 1) (w.heap.size + 2) drops w1 (.slice none 0 0) (.slice none 0 0) (.slice none 0 0) 0 0 [] := by
      obtain ⟨p1, p2, p3, p4⟩ := HP.out
      exact ⟨p1.below hb p1.lt, World.ownsRow_nil _ _ _ _, World.ownsRow_nil _ _ _ _, World.ownsRow_nil _ _ _ _, p3.trans (hb.mono p3.size), by omega, by have := hb.size; omega, p2.below hb p2.lt, by omega⟩
    have HS1 := Lib.hid hs1
    obtain ⟨wh1, r1, -⟩ := hs1
    have q := row_cells r1.2
    unfold repCells at q
    clear HS2 HP r1 hb
    refine wp_loop_rounds 1 ?_; rw [rounds_succ]
    go_wp2
    clear q
    go_loopw [59] (fun v wr => ∃ (k : Nat) (o u nx : Value) (l : List Value), v = .int .i64 k ∧ l = nexts me k ∧ (k : Int) ≤ c.rep ∧ SRow w (w.heap.size + 1) (w.heap.size + 2) drops wr o u nx k k l) (fun v _ => 17 - (intOf v).toNat)
    case atStart => exact ⟨0, _, _, _, [], rfl, rfl, by have := hc.rep0; omega, hS⟩
    case round =>
      obtain ⟨k, o, u, nx, l, rfl, hlk, hk, hR⟩ := hrel
      have hl17 : l.length = k := by rw [hlk, nexts_len]
      replace hl17 : l.length ≤ k := by omega
      have HL := Lib.hid hlk
      clear hlk
      have HR := Lib.hid hR
      have hs2 : SeeAt wr B c me nm ca vw gs drops := HS0.out.keep (Same.below hR.bel (Nat.le_refl _))
      obtain ⟨wh2, r1, r2, r3, r4, r5, -⟩ := hs2
      have q := row_cells r1.2
      unfold repCells at q
      have hlink := link_at r2 k
      have hout : (Instr.lookup 103 (.map (some (B + 3))) (.int .i64 k) false).run Tryz.prog wr = .ok (.slice none 0 0) wr := run_lookup_ents (P := Tryz.prog) (t := 103) (e := 160) (w := wr) (z := .slice none 0 0) link_law Tryz.underlying103 (run_zero_of infoMsgs wr) r3.2 (by rfl : Ents (Value.int .i64) ([] : List (Int × Value)) _) (k : Int)
      have hX := row_cells hR.row.2
      have hY := row_cells hR.res.2
      have fY := row_free hR.res.2
      have zX := hR.row.lt
      have zY := hR.res.lt
      have z5 := r5.lt
      have R5 := Lib.hid r5.2
      clear r1 r2 r3 r4 r5 hR hS HS1
      have hk16 : k < 17 := by have := hc.rep1; omega
      by_cases hlt : (k : Int) < c.rep
      · by_cases hme : (k : Int) = me
        · rw [if_neg (by simp [hme])] at hlink
          have H1 := Lib.hid hme
          clear hme
          go_wp2_with (first
            | (at_builtin; refine wpList_app_one Tryz.underlying65 infoMsgs rfl rfl _ _ rfl (w.heap.size + 2) _ k _ rfl HR.out.o _ _ rfl rfl rfl (by omega) (by unfold maxLen; omega) HR.out.lo2 ?_; intro v1 w1 ho1 hg1; obtain ⟨g1, c1, rfl⟩ := Joins.ownsRow_form ho1 (by omega); obtain ⟨S1, A1⟩ := HR.out.grow_o hg1 ho1; have q1 := row_cells A1.2; have f1 := row_free A1.2; replace S1 := Lib.hid S1; clear ho1 hg1 A1)
            | (at_builtin; refine wpList_app_one Tryz.underlying66 infoSegs rfl rfl _ _ rfl (w.heap.size + 2) _ k _ rfl S1.out.u _ _ rfl (size_setCell _ _ _) rfl (by omega) (by unfold maxLen; omega) S1.out.lo2 ?_; intro v2 w2 ho2 hg2; obtain ⟨g2, c2, rfl⟩ := Joins.ownsRow_form ho2 (by omega); obtain ⟨S2, A2⟩ := S1.out.grow_u hg2 ho2; have q2 := row_cells A2.2; have f2 := row_free A2.2; replace S2 := Lib.hid S2; clear ho2 hg2 A2)
            | (at_builtin; refine wpList_app_one Tryz.underlying67 infoI64 rfl rfl _ _ rfl (w.heap.size + 2) _ l.length _ rfl S2.out.nx _ _ rfl (size_setCell _ _ _) rfl (by omega) (by unfold maxLen; omega) S2.out.lo2 ?_; intro v3 w3 ho3 hg3; obtain ⟨g3, c3, rfl⟩ := Joins.ownsRow_form ho3 (by omega); obtain ⟨S3, A3⟩ := S2.out.grow_nx hg3 ho3; have q3 := row_cells A3.2; have f3 := row_free A3.2; replace S3 := Lib.hid S3; clear ho3 hg3 A3)
            )
          exact ⟨⟨k + 1, _, _, _, _, by simp, by rw [HL.out]; exact (nexts_me H1.out).symm, by omega, S3.out⟩, by simp [intOf]; omega⟩
        · rw [if_pos ⟨by omega, hme⟩] at hlink
          obtain ⟨la, hla, hlink⟩ := hlink
          have HLA := Lib.hid hla
          clear hla
          go_wp2
          refine wp_loop_rounds 1 ?_; rw [rounds_succ]
          go_wp2_with (first
            | (go_at_call 64; refine (link_under la (B + 9) me k c.win c.res wr HLA.out).mono ?_; rintro e w5 ⟨rfl, rfl⟩)
            | (go_at_call 65; refine (link_next la (B + 9) me k c.win c.res wr HLA.out).mono ?_; rintro e w5 ⟨rfl, rfl⟩)
            | (at_builtin; refine wpList_app_one Tryz.underlying65 infoMsgs rfl rfl _ _ rfl (w.heap.size + 2) _ k _ rfl HR.out.o _ _ rfl rfl rfl (by omega) (by unfold maxLen; omega) HR.out.lo2 ?_; intro v1 w1 ho1 hg1; obtain ⟨g1, c1, rfl⟩ := Joins.ownsRow_form ho1 (by omega); obtain ⟨S1, A1⟩ := HR.out.grow_o hg1 ho1; have q1 := row_cells A1.2; have f1 := row_free A1.2; replace S1 := Lib.hid S1; clear ho1 hg1 A1)
            | (at_builtin; refine wpList_app_one Tryz.underlying66 infoSegs rfl rfl _ _ rfl (w.heap.size + 2) _ k _ rfl S1.out.u _ _ rfl (size_setCell _ _ _) rfl (by omega) (by unfold maxLen; omega) S1.out.lo2 ?_; intro v2 w2 ho2 hg2; obtain ⟨g2, c2, rfl⟩ := Joins.ownsRow_form ho2 (by omega); obtain ⟨S2, A2⟩ := S1.out.grow_u hg2 ho2; have q2 := row_cells A2.2; have f2 := row_free A2.2; replace S2 := Lib.hid S2; clear ho2 hg2 A2)
            | (at_builtin; refine wpList_app_one Tryz.underlying67 infoI64 rfl rfl _ _ rfl (w.heap.size + 2) _ l.length _ rfl S2.out.nx _ _ rfl (size_setCell _ _ _) rfl (by omega) (by unfold maxLen; omega) S2.out.lo2 ?_; intro v3 w3 ho3 hg3; obtain ⟨g3, c3, rfl⟩ := Joins.ownsRow_form ho3 (by omega); obtain ⟨S3, A3⟩ := S2.out.grow_nx hg3 ho3; have q3 := row_cells A3.2; have f3 := row_free A3.2; replace S3 := Lib.hid S3; clear ho3 hg3 A3)
            )
          exact ⟨⟨k + 1, _, _, _, _, by simp, by rw [HL.out]; exact (nexts_ne hme).symm, by omega, S3.out⟩, by simp [intOf]; omega⟩
      · obtain ⟨go1, co1, rfl⟩ := Joins.ownsRow_form HR.out.o (by have := hc.rep0; omega)
        obtain ⟨gu1, cu1, rfl⟩ := Joins.ownsRow_form HR.out.u (by have := hc.rep0; omega)
        obtain ⟨gn1, cn1, rfl⟩ := Joins.ownsRow_form HR.out.nx (by have := hc.rep0; rw [HL.out, nexts_len]; omega)
        have hr := run_range_map (P := Tryz.prog) (t := 105) Tryz.underlying105 (w := wr) (b := B + 5) (es := #[]) (c := 0) R5.out
        have hn := fun ty => run_next_none (P := Tryz.prog) (w := wr.alloc (.mapIter (some (B + 5)) 0 #[] 0)) (it := wr.heap.size) (b := B + 5) (s := 0) (l := 0) (c := 0) (heap_alloc_at wr _) (by rw [heap_alloc_lt _ _ z5]; exact R5.out) ty
        go_wp2
        refine wp_loop_rounds 1 ?_; rw [rounds_succ]
        go_wp2_with (go_at_call 66; refine (calls_slice0 _ _ _ _ _ _).mono ?_; rintro e w6 ⟨rfl, hb6⟩; obtain ⟨hc6, hf6⟩ := bcell hb6)
        have hY6 := (HR.out.res.alloc (.mapIter (some (B + 5)) 0 #[] 0)).below hb6 (by simp; omega)
        have hF := ((((((hY6.setCell 0 (.int .i64 0)).setCell 1 (.slice none 0 0)).setCell 2 (.slice (some ⟨go1, 0, none⟩) k co1)).setCell 3 (.slice (some ⟨gu1, 0, none⟩) k cu1)).setCell 4 (.slice (some ⟨gn1, 0, none⟩) l.length cn1)).setCell 5 (.slice none 0 0)).setCell 6 (.int .i64 drops)
        have hkr : k = c.rep.toNat := by omega
        have own : ∀ {e : TypeId} {v : Value} {n : Nat} {xs : List Value}, wr.ownsRow (w.heap.size + 2) e 1 v n xs → _ := fun h => own7 (own_below (h.alloc (.mapIter (some (B + 5)) 0 #[] 0)) hb6 (by simp)) (Y := w.heap.size) (by omega) (.int .i64 0) (.slice none 0 0) (.slice (some ⟨go1, 0, none⟩) k co1) (.slice (some ⟨gu1, 0, none⟩) k cu1) (.slice (some ⟨gn1, 0, none⟩) l.length cn1) (.slice none 0 0) (.int .i64 drops)
        refine bodyPost_ret (results_cell_row rfl _ _ w.heap.size _ _ (0, 0) _ rfl hF.2 Tryz.underlying70 rfl (by kernel_rfl)) rfl ⟨_, _, _, rfl, ?_, ?_, ?_, ?_⟩
        · rw [← hkr]; exact own HR.out.o
        · rw [← hkr]; exact own HR.out.u
        · have := own HR.out.nx
          rw [← hkr]; rw [HL.out, nexts_len] at this; rw [HL.out, nexts_len]; exact this
        · refine ((((((((Below.trans (HR.out.bel.alloc (by have := HR.out.bel.size; omega) _) (hb6.mono (by simp; omega))).setCell (by exact Nat.le_refl _) _).setCell (by exact Nat.le_refl _) _).setCell (by exact Nat.le_refl _) _).setCell (by exact Nat.le_refl _) _).setCell (by exact Nat.le_refl _) _).setCell (by exact Nat.le_refl _) _).setCell (by exact Nat.le_refl _) _)
end Go.Proofs.YtegdpagjloidnaaGreatDoor
