/- What Journal.Append needs: copies into a new sector, rows of records, what lies about. -/
import Derived.Test.YtegdpagjloidnaaGreatDoorRoom
import Derived.Test.YtegdpagjloidnaaGreatDoorDecode4
import Derived.Deep.CutRange
namespace Go.Proofs.YtegdpagjloidnaaGreatDoor
open Go.RowKit Go.Conc

/-- Only block S, a row of 512 bytes, has been written. -/
structure Sec (w w' : World) (S : Nat) : Prop where
  os : w'.os = w.os
  tape : w'.tape = w.tape
  output : w'.output = w.output
  size : w'.heap.size = w.heap.size
  block : ∀ k, k ≠ S → w'.heap[k]? = w.heap[k]?
  row : ∃ cs : Array Value, w'.heap[S]? = some (.cells cs 5 (0, 0)) ∧ cs.size = 512 ∧ ∀ v ∈ cs.toList, v.oneCell' = true

theorem sec_copy {w : World} {S o n m c : Nat} {cur : Array Value} {sv : Value} {bs : List UInt8} {b off : Nat} (hS : w.heap[S]? = some (.cells cur 5 (0, 0))) (hcs : cur.size = 512) (hc1 : ∀ v ∈ cur.toList, v.oneCell' = true)
    (hsv : sv = .slice (some ⟨b, off, none⟩) m c) (hr : Reads w sv bs) (hfit : o + m ≤ 512) (hmn : m ≤ n) (dc : Nat) :
    ∃ W', (∀ ty, (Builtin.copy_ #[26, 26] ty #[.slice (some ⟨S, o, none⟩) n dc, sv]).run Tryz.prog w = .ok (.int .i64 m) W') ∧ Sec w W' S := by
  subst hsv
  have hl := hr.len
  have hcell : ∀ i, i < m → w.cell? ⟨b, off + i, none⟩ = some (U8 (bs.getD i 0)) := by
    rcases hr with ⟨h, h'⟩ | ⟨b', off', cap', h, h2, h3⟩
    · simp at h'
    · simp at h; obtain ⟨⟨rfl, rfl⟩, rfl, rfl⟩ := h; exact h3
  have h := fun ty => run_copy_row (P := Tryz.prog) w 26 26 ty 5 S o n dc ⟨b, off, none⟩ m c cur 5 (bs.map U8) Tryz.underlying26 (by kernel_rfl) hS (by simp only [List.length_map]; rw [hl]; exact (Nat.min_eq_left hmn).symm)
    (by
      intro j v hv
      rw [addr_add']
      simp only [List.getElem?_map, Option.map_eq_some_iff] at hv
      obtain ⟨x, hx, rfl⟩ := hv
      have hjl : j < bs.length := (List.getElem?_eq_some_iff.1 hx).1
      rw [hcell j (by omega)]
      simp [List.getD, hx]) (by simp only [List.length_map]; omega) (by intro u hu; simp only [List.mem_map] at hu; obtain ⟨x, _, rfl⟩ := hu; rfl)
  refine ⟨w.setRow S (cur.toList.take o ++ bs.map U8 ++ cur.toList.drop (o + (bs.map U8).length)).toArray, fun ty => by rw [h ty]; simp only [List.length_map, hl]; rfl, rfl, rfl, rfl, by simp [World.setRow], fun k hk => setRow_ne _ _ _ hk, ⟨_, setRow_heap w S cur _ _ _ hS, ?_, ?_⟩⟩
  · simp; omega
  · intro v hv
    simp only [List.mem_append] at hv
    rcases hv with (hv | hv) | hv
    · exact hc1 v (List.mem_of_mem_take hv)
    · simp only [List.mem_map] at hv; obtain ⟨x, _, rfl⟩ := hv; rfl
    · exact hc1 v (List.mem_of_mem_drop hv)

theorem Reads.sec {w w' : World} {S b off n cap : Nat} {bs : List UInt8} (h : Reads w (.slice (some ⟨b, off, none⟩) n cap) bs) (hs : Sec w w' S) (hb : b ≠ S) : Reads w' (.slice (some ⟨b, off, none⟩) n cap) bs := by
  rcases h with ⟨h, h'⟩ | ⟨b', off', cap', h, h2, h3⟩
  · simp at h'
  · refine Or.inr ⟨b', off', cap', h, h2, fun i hi => ?_⟩
    simp at h; obtain ⟨⟨rfl, rfl⟩, rfl, rfl⟩ := h
    have := h3 i hi
    simp only [World.cell?] at this ⊢
    rw [hs.block _ (by show b ≠ S; exact hb)]; exact this
theorem At.sec {w w' : World} {S lo k : Nat} {o : Obj} (h : At w lo k o) (hs : Sec w w' S) (hk : k ≠ S) : At w' lo k o := ⟨h.1, by rw [hs.block k hk]; exact h.2⟩

/-- What lies about in Append: its boxes at B and B + 1, the journal, the disk. -/
structure AEnv (X : World) (B lo lo' j d sb : Nat) (rv : Value) (next : Int) (ps : Array Value) (wr : Int) (tr : Array Value) : Prop where
  bx : At X 0 B (.cells #[.pointer (some ⟨j, 0, none⟩)] 90)
  be : At X 0 (B + 1) (.cells #[.int .i64 0] 31)
  jt : JAt X lo j d rv next false
  dt : DiskSt X lo' d sb ps wr tr
theorem AEnv.of_at {X X' : World} {B lo lo' j d sb : Nat} {rv : Value} {next : Int} {ps : Array Value} {wr : Int} {tr : Array Value} (h : AEnv X B lo lo' j d sb rv next ps wr tr)
    (k : ∀ {l i : Nat} {cs : Array Value} {T : TypeId}, T = 90 ∨ T = 31 ∨ T = 130 ∨ T = 86 ∨ T = 304 → At X l i (.cells cs T) → At X' l i (.cells cs T)) : AEnv X' B lo lo' j d sb rv next ps wr tr :=
  ⟨k (by decide) h.bx, k (by decide) h.be, k (by decide) h.jt, ⟨k (by decide) h.dt.1, k (by decide) h.dt.2⟩⟩
theorem AEnv.sec {X X' : World} {B lo lo' j d sb S : Nat} {rv : Value} {next : Int} {ps : Array Value} {wr : Int} {tr : Array Value} (h : AEnv X B lo lo' j d sb rv next ps wr tr) (hs : Sec X X' S) {cur : Array Value} (hS : X.heap[S]? = some (.cells cur 5 (0, 0))) : AEnv X' B lo lo' j d sb rv next ps wr tr :=
  h.of_at fun hT ha => ha.sec hs (by
    rintro rfl
    have := ha.2
    rw [hS] at this
    simp at this
    obtain ⟨-, h2⟩ := this
    subst h2
    revert hT
    decide)
theorem AEnv.kind {X X' : World} {B lo lo' j d sb : Nat} {rv : Value} {next : Int} {ps : Array Value} {wr : Int} {tr : Array Value} (h : AEnv X B lo lo' j d sb rv next ps wr tr) {e : TypeId} (hk : KeepKind e X X') (he : e = 5 ∨ e = 26) : AEnv X' B lo lo' j d sb rv next ps wr tr :=
  h.of_at fun hT ha => hk.at ha (by
    rintro rfl
    rcases he with rfl | rfl
    · revert hT; decide
    · revert hT; decide)
theorem AEnv.below {X X' : World} {B lo lo' j d sb : Nat} {rv : Value} {next : Int} {ps : Array Value} {wr : Int} {tr : Array Value} (h : AEnv X B lo lo' j d sb rv next ps wr tr) {D : Nat} (hb : Below D X X') (hD : X.heap.size ≤ D) : AEnv X' B lo lo' j d sb rv next ps wr tr :=
  h.of_at fun _ ha => ha.below hb (Nat.lt_of_lt_of_le ha.lt hD)
theorem AEnv.alloc {X : World} {B lo lo' j d sb : Nat} {rv : Value} {next : Int} {ps : Array Value} {wr : Int} {tr : Array Value} (h : AEnv X B lo lo' j d sb rv next ps wr tr) (o : Obj) : AEnv (X.alloc o) B lo lo' j d sb rv next ps wr tr := h.of_at fun _ ha => ha.alloc o
theorem AEnv.drew {X : World} {B lo lo' j d sb : Nat} {rv : Value} {next : Int} {ps : Array Value} {wr : Int} {tr : Array Value} (h : AEnv X B lo lo' j d sb rv next ps wr tr) : AEnv X.drew B lo lo' j d sb rv next ps wr tr := h.of_at fun _ ha => ha
/-- What the walk reads of it. -/
theorem AEnv.cells {X : World} {B lo lo' j d sb : Nat} {rv : Value} {next : Int} {ps : Array Value} {wr : Int} {tr : Array Value} (h : AEnv X B lo lo' j d sb rv next ps wr tr) :
    X.cell? ⟨B, 0, none⟩ = some (.pointer (some ⟨j, 0, none⟩)) ∧ X.cell? ⟨B + 1, 0, none⟩ = some (.int .i64 0) ∧ X.frozen? ⟨B + 1, 0, none⟩ = false ∧ (∀ i, X.cell? ⟨j, i, none⟩ = #[Value.pointer (some ⟨d, 0, none⟩), rv, .int .i64 next, .bool false][i]?) ∧ (∀ i, X.frozen? ⟨j, i, none⟩ = false) ∧ B < X.heap.size ∧ B + 1 < X.heap.size ∧ j < X.heap.size :=
  ⟨by rw [row_cells h.bx.2]; rfl, by rw [row_cells h.be.2]; rfl, row_free h.be.2 0, row_cells h.jt.2, row_free h.jt.2, h.bx.lt, h.be.lt, h.jt.lt⟩
theorem AEnv.wrote {X X' : World} {B lo lo' j d sb i : Nat} {rv : Value} {next : Int} {ps : Array Value} {wr : Int} {tr : Array Value} (h : AEnv X B lo lo' j d sb rv next ps wr tr) (hw : Wrote X X' lo' d sb ps wr tr i) :
    AEnv X' B lo lo' j d sb rv next (ps.setIfInBounds i (.pointer (some ⟨X.heap.size, 0, none⟩))) (wr + 1) (tr.setIfInBounds (wr % 64).toNat (.int .i64 i)) := by
  have k : ∀ {l i : Nat} {cs : Array Value} {T : TypeId}, T = 90 ∨ T = 31 ∨ T = 130 → At X l i (.cells cs T) → At X' l i (.cells cs T) := by
    intro l i cs T hT ha
    refine ⟨ha.1, ?_⟩
    rw [hw.block i ha.lt ?_ ?_]
    · exact ha.2
    · rintro rfl
      have := ha.2
      rw [h.dt.1.2] at this
      simp at this
      obtain ⟨-, h2⟩ := this
      subst h2
      revert hT; decide
    · rintro rfl
      have := ha.2
      rw [h.dt.2.2] at this
      simp at this
      obtain ⟨-, h2⟩ := this
      subst h2
      revert hT; decide
  exact ⟨k (by decide) h.bx, k (by decide) h.be, k (by decide) h.jt, hw.st⟩

theorem AEnv.ne {X : World} {B lo lo' j d sb : Nat} {rv : Value} {next : Int} {ps : Array Value} {wr : Int} {tr : Array Value} (h : AEnv X B lo lo' j d sb rv next ps wr tr) : B ≠ j ∧ B + 1 ≠ j ∧ d ≠ j ∧ sb ≠ j := by
  refine ⟨?_, ?_, ?_, ?_⟩
  · rintro rfl; have h1 := h.bx.2; rw [h.jt.2] at h1; simp at h1
  · rintro rfl; have h1 := h.be.2; rw [h.jt.2] at h1; simp at h1
  · rintro rfl; have h1 := h.dt.1.2; rw [h.jt.2] at h1; simp at h1
  · rintro rfl; have h1 := h.dt.2.2; rw [h.jt.2] at h1; simp at h1
theorem AEnv.setRv {X : World} {B lo lo' j d sb : Nat} {rv : Value} {next : Int} {ps : Array Value} {wr : Int} {tr : Array Value} (h : AEnv X B lo lo' j d sb rv next ps wr tr) (v : Value) : AEnv (X.setCell ⟨j, 1, none⟩ v) B lo lo' j d sb v next ps wr tr := by
  obtain ⟨n1, n2, n3, n4⟩ := h.ne
  exact ⟨h.bx.setCell_ne n1 _ _ _, h.be.setCell_ne n2 _ _ _, h.jt.setCell 1 v, ⟨h.dt.1.setCell_ne n3 _ _ _, h.dt.2.setCell_ne n4 _ _ _⟩⟩
theorem AEnv.setNext {X : World} {B lo lo' j d sb : Nat} {rv : Value} {next : Int} {ps : Array Value} {wr : Int} {tr : Array Value} (h : AEnv X B lo lo' j d sb rv next ps wr tr) (m : Int) : AEnv (X.setCell ⟨j, 2, none⟩ (.int .i64 m)) B lo lo' j d sb rv m ps wr tr := by
  obtain ⟨n1, n2, n3, n4⟩ := h.ne
  exact ⟨h.bx.setCell_ne n1 _ _ _, h.be.setCell_ne n2 _ _ _, h.jt.setCell 2 (.int .i64 m), ⟨h.dt.1.setCell_ne n3 _ _ _, h.dt.2.setCell_ne n4 _ _ _⟩⟩
theorem own_setJ {X : World} {B lo lo' j d sb base n o : Nat} {rv v : Value} {next : Int} {ps : Array Value} {wr : Int} {tr : Array Value} {xs : List Value} (h : AEnv X B lo lo' j d sb rv next ps wr tr) (ho : X.ownsRow base 26 1 v n xs) (u : Value) : (X.setCell ⟨j, o, none⟩ u).ownsRow base 26 1 v n xs := by
  obtain ⟨h1, h2 | ⟨g, cap, cur, rfl, hb, hg, h3⟩⟩ := ho
  · exact ⟨h1, Or.inl h2⟩
  · refine ⟨h1, Or.inr ⟨g, cap, cur, rfl, hb, ?_, h3⟩⟩
    rw [Below.heap_setCell _ _ _ _ ?_]
    · exact hg
    · show g ≠ j
      rintro rfl
      rw [h.jt.2] at hg
      simp at hg
theorem own_setE {X : World} {B lo lo' j d sb base n o : Nat} {rv v : Value} {next : Int} {ps : Array Value} {wr : Int} {tr : Array Value} {xs : List Value} (h : AEnv X B lo lo' j d sb rv next ps wr tr) (ho : X.ownsRow base 26 1 v n xs) (u : Value) : (X.setCell ⟨B + 1, o, none⟩ u).ownsRow base 26 1 v n xs := by
  obtain ⟨h1, h2 | ⟨g, cap, cur, rfl, hb, hg, h3⟩⟩ := ho
  · exact ⟨h1, Or.inl h2⟩
  · refine ⟨h1, Or.inr ⟨g, cap, cur, rfl, hb, ?_, h3⟩⟩
    rw [Below.heap_setCell _ _ _ _ ?_]
    · exact hg
    · show g ≠ B + 1
      rintro rfl
      rw [h.be.2] at hg
      simp at hg
theorem AEnv.ne2 {X : World} {B lo lo' j d sb : Nat} {rv : Value} {next : Int} {ps : Array Value} {wr : Int} {tr : Array Value} (h : AEnv X B lo lo' j d sb rv next ps wr tr) : d ≠ B + 1 ∧ sb ≠ B + 1 := by
  refine ⟨?_, ?_⟩
  · rintro rfl; have h1 := h.dt.1.2; rw [h.be.2] at h1; simp at h1
  · rintro rfl; have h1 := h.dt.2.2; rw [h.be.2] at h1; simp at h1
theorem own_wrote {X X' : World} {lo' d sb i : Nat} {ps : Array Value} {wr : Int} {tr : Array Value} {base n : Nat} {v : Value} {xs : List Value} (h : X.ownsRow base 26 1 v n xs) (hd : DiskSt X lo' d sb ps wr tr) (hw : Wrote X X' lo' d sb ps wr tr i) : X'.ownsRow base 26 1 v n xs := by
  obtain ⟨h1, h2 | ⟨g, cap, cur, rfl, hb, hg, h3⟩⟩ := h
  · exact ⟨h1, Or.inl h2⟩
  · refine ⟨h1, Or.inr ⟨g, cap, cur, rfl, hb, ?_, h3⟩⟩
    rw [hw.block g (lt_of_heap hg) ?_ ?_]
    · exact hg
    · rintro rfl
      rw [hd.1.2] at hg
      simp at hg
    · rintro rfl
      rw [hd.2.2] at hg
      simp at hg
theorem Reads.wrote {X X' : World} {lo' d sb i b off n cap : Nat} {ps : Array Value} {wr : Int} {tr : Array Value} {bs : List UInt8} (h : Reads X (.slice (some ⟨b, off, none⟩) n cap) bs) (hw : Wrote X X' lo' d sb ps wr tr i) (hb : b < X.heap.size) (h1 : b ≠ d) (h2 : b ≠ sb) : Reads X' (.slice (some ⟨b, off, none⟩) n cap) bs := by
  rcases h with ⟨h, h'⟩ | ⟨b', off', cap', h, h2, h3⟩
  · simp at h'
  · refine Or.inr ⟨b', off', cap', h, h2, fun i hi => ?_⟩
    simp at h; obtain ⟨⟨rfl, rfl⟩, rfl, rfl⟩ := h
    have := h3 i hi
    simp only [World.cell?] at this ⊢
    rw [hw.block _ hb h1 (by assumption)]; exact this
theorem infoRec : (Tryz.prog.info? 26).map (fun i => (i.zero, i.size, i.bytes)) = some (some (.slice none 0 0), 1, 24) := by kernel_rfl
/-- 'append(records, record)': the literal is a block of one cell. -/
theorem run_app_rec {W : World} {base k S : Nat} {v x : Value} {xs : List Value} (hown : W.ownsRow base 26 1 v k xs) (hS : W.heap[S]? = some (.cells #[x] 26)) (hx : x.oneCell' = true) (hk : k ≤ 1000000) (hbase : base ≤ W.heap.size) :
    ∃ v' W', (Builtin.append_ #[128, 128] 128 #[v, .slice (some ⟨S, 0, none⟩) 1 1]).run Tryz.prog W = .ok v' W' ∧ W'.ownsRow base 26 1 v' (k + 1) (xs ++ [x]) ∧ W.grownBy W' v.ownBlock := by
  obtain ⟨i0, hi, hz0, hz1, hz2⟩ := info_parts infoRec
  obtain ⟨v', W', hr, ho, hg, _⟩ := run_append_own (P := Tryz.prog) W base 128 128 26 i0 (.slice none 0 0) 1 24 Tryz.underlying128 hi hz0 hz1 hz2 rfl (by decide) v k _ hown ⟨S, 0, none⟩ 1 1 [x] (by simp) (by
    intro j u hj
    have hj0 : j = 0 := by have := (List.getElem?_eq_some_iff.1 hj).1; simpa using this
    subst hj0
    simp at hj
    subst hj
    rw [addr_add', row_cells hS]; rfl) (by intro u hu; simp at hu; subst hu; exact hx) (by unfold maxLen; omega) (by omega) hbase
  exact ⟨v', W', hr, ho, hg⟩

/-- A record was written. -/
structure Logged (w w' : World) (lo lo' j d sb base k : Nat) (rv : Value) (next : Nat) (ps : Array Value) (wr : Int) (tr : Array Value) : Prop where
  jt : ∃ rv' xs', JAt w' lo j d rv' ((next : Int) + 1) false ∧ w'.ownsRow base 26 1 rv' (k + 1) xs'
  dt : ∃ S, DiskSt w' lo' d sb (ps.setIfInBounds next (.pointer (some ⟨S, 0, none⟩))) (wr + 1) (tr.setIfInBounds (wr % 64).toNat (.int .i64 next))
  os : w'.os = w.os
  tape : w'.tape = w.tape
  output : w'.output = w.output
  size : w.heap.size ≤ w'.heap.size
  block : ∀ k, k < w.heap.size → k ≠ j → k ≠ d → k ≠ sb → rv.ownBlock ≠ some k → w'.heap[k]? = w.heap[k]?
end Go.Proofs.YtegdpagjloidnaaGreatDoor
