/- cache.New: a session for each of the replica's numbers. -/
import Derived.Test.YtegdpagjloidnaaGreatDoorNews
import Derived.Test.YtegdpagjloidnaaGreatDoorMaps
namespace Go.Proofs.YtegdpagjloidnaaGreatDoor
open Go.RowKit Go.Conc

theorem eq_ckey (a b : Int × Int) (w : World) : (Op.equal 187 (pairKey a) (pairKey b)).run Tryz.prog w = .ok (decide (a = b)) w := by
  obtain ⟨a, b'⟩ := a
  obtain ⟨c, d⟩ := b
  rw [pairKey, pairKey, Op.equal, show Op.maxDepth = 9998 + 1 + 1 from rfl, run_equalIn_struct w _ 187 _ _ (by kernel_rfl) (by kernel_rfl)]
  have hf : (Tryz.prog.fieldsOf 187).toList = [{ name := "replica", type := 3, offset := 0, embedded := false, tag := "", pkgPath := "sluice/cache", byteOffset := 0 }, { name := "session", type := 3, offset := 1, embedded := false, tag := "", pkgPath := "sluice/cache", byteOffset := 8 }] := by kernel_rfl
  rw [hf]
  by_cases h : a = c <;> by_cases h' : b' = d <;> simp [Op.eqFields, go_sem, h, h', run_equalIn_int, Tryz.underlying3]
theorem check_ckey (m : Nat) (a : Int × Int) (e : Bool) (w : World) : (Instr.checkKey e (m + 1 + 1) 187 (pairKey a)).run Tryz.prog w = .ok () w := by
  rw [pairKey, Instr.checkKey]
  simp only [Sem.run_bind, run_underlying Tryz.underlying187, Result.andThen_ok]
  simp [go_sem, Instr.checkKey]
theorem ckey_law : KeyLaw Tryz.prog 187 pairKey :=
  keyLaw_struct Tryz.underlying187 eq_ckey (check_ckey 9998) (fun a => by simp [pairKey, Instr.sameBits])

noncomputable def sessionCells : Array Value := Tryz.zeroCells185
def SessAt (w : World) (lo : Nat) (v : Value) : Prop := ∃ a, v = .pointer (some ⟨a, 0, none⟩) ∧ At w lo a (.cells sessionCells 185)
theorem SessAt.keep {w w' : World} {lo : Nat} {v : Value} (h : SessAt w lo v) (hs : Same lo w w') : SessAt w' lo v := by
  obtain ⟨a, h1, h2⟩ := h; exact ⟨a, h1, h2.keep hs⟩

/-- The keys of k sessions. -/
def sessKeys (me n : Int) (k : Nat) : List (Int × Int) := (List.range k).map fun j : Nat => (me, me + n * (j : Int))
def CacheAt (w : World) (lo a : Nat) (me n sess room : Int) : Prop :=
  ∃ m k l, At w lo a (.cells #[.int .i64 me, .int .i64 n, .int .i64 sess, .int .i64 room, .map (some m)] 179) ∧ MapAt w lo m pairKey l ∧ l.map (·.1) = sessKeys me n k ∧
    sess ≤ me + n * (k : Int) ∧ (∀ j : Nat, j < k → me + n * (j : Int) < sess) ∧ ∀ p ∈ l, SessAt w lo p.2
theorem CacheAt.mono {w : World} {lo lo' a : Nat} {me n sess room : Int} (h : CacheAt w lo a me n sess room) (hl : lo' ≤ lo) : CacheAt w lo' a me n sess room := by
  obtain ⟨m, k, l, h1, ⟨es, cl, h2, h2'⟩, h3, h4, h5, h6⟩ := h
  exact ⟨m, k, l, h1.mono hl, ⟨es, cl, h2.mono hl, h2'⟩, h3, h4, h5, fun p hp => by obtain ⟨a, e1, e2⟩ := h6 p hp; exact ⟨a, e1, e2.mono hl⟩⟩
theorem CacheAt.keep {w w' : World} {lo a : Nat} {me n sess room : Int} (h : CacheAt w lo a me n sess room) (hs : Same lo w w') : CacheAt w' lo a me n sess room := by
  obtain ⟨m, k, l, h1, h2, h3, h4, h5, h6⟩ := h
  exact ⟨m, k, l, h1.keep hs, h2.keep hs, h3, h4, h5, fun p hp => (h6 p hp).keep hs⟩

theorem sessKeys_fresh {me n : Int} (hn : 0 < n) (k : Nat) (l : List ((Int × Int) × Value)) (h : l.map (·.1) = sessKeys me n k) (i : Nat) : findIx (me, me + n * (k : Int)) l i = none := by
  have key : ∀ p ∈ l, p.1 ≠ (me, me + n * (k : Int)) := by
    intro p hp
    have : p.1 ∈ sessKeys me n k := by rw [← h]; exact List.mem_map_of_mem hp
    simp only [sessKeys, List.mem_map, List.mem_range] at this
    obtain ⟨j, hj, he⟩ := this
    rw [← he]
    intro hh
    simp only [Prod.mk.injEq, true_and] at hh
    have h1 : n * (j : Int) = n * (k : Int) := by omega
    have h2 := Int.eq_of_mul_eq_mul_left (by omega) h1
    omega
  clear h
  induction l generalizing i with
  | nil => rfl
  | cons p l ih =>
    have h1 := key p (by simp)
    simp only [findIx]
    rw [if_neg (fun hh => h1 hh.symm)]
    exact ih (i + 1) (fun q hq => key q (by simp [hq]))

set_option maxHeartbeats 400000 in
set_option maxRecDepth 100000 in
theorem cache_new (me n sess room : Int) (w : World) (h1 : 0 ≤ me) (h2 : me < n) (h3 : 2 ≤ n) (h4 : n ≤ 16) (h5 : 1 ≤ sess) (h6 : sess ≤ 64) (h7 : 1 ≤ room) (h8 : room ≤ 16) :
    Calls Tryz.prog 45 #[.int .i64 me, .int .i64 n, .int .i64 sess, .int .i64 room] w fun e w' =>
      e = .returned (.tuple #[.pointer (some ⟨w.heap.size + 1, 0, none⟩), .int .i64 0]) ∧ CacheAt w' w.heap.size (w.heap.size + 1) me n sess room ∧ Below w.heap.size w w' := by
  have hmm := @run_makeMap Tryz.prog
  go_enter Tryz.func45, Tryz.ntmps45
  go_wp2
  go_loopw [11] (fun v wr => ∃ (k : Nat) (s : Int) (l : List ((Int × Int) × Value)) (es : Array MapEntry) (clock : Nat), v = .int .i64 s ∧ Hid (s = me + n * (k : Int)) ∧ 0 ≤ s ∧ s ≤ 80 ∧ (∀ j : Nat, j < k → me + n * (j : Int) < sess) ∧
      l.map (·.1) = sessKeys me n k ∧ At wr w.heap.size (w.heap.size + 1) (.cells #[.int .i64 me, .int .i64 n, .int .i64 sess, .int .i64 room, .map (some w.heap.size)] 179) ∧
      At wr w.heap.size w.heap.size (.map es clock) ∧ Ents pairKey l es.toList ∧ Born es clock ∧ (∀ p ∈ l, SessAt wr w.heap.size p.2) ∧ Below w.heap.size w wr) (fun v _ => 81 - (intOf v).toNat)
  case atStart =>
    refine ⟨0, me, [], #[], 0, rfl, by simp [Hid], h1, by omega, by simp, rfl, ⟨by omega, ?_⟩, (At.new (Nat.le_refl _) _).alloc _, rfl, by simp [Born], by simp, ((Below.refl _ _).alloc (Nat.le_refl _) _).alloc (by simp) _⟩
    simpa using heap_alloc_at (w.alloc (Obj.map #[] 0)) _
  case round =>
    obtain ⟨k, s, l, es, clock, rfl, hs, hs0, hs1, hj, hl, hc, hm, hents, hborn, hsess, hbel⟩ := hrel
    have hcell := row_cells hc.2
    have hupd := run_update_new (P := Tryz.prog) (t := 177) (e := 180) (w := wr.alloc (.cells sessionCells 185)) ckey_law Tryz.underlying177 (by rw [heap_alloc_lt _ _ hm.lt]; exact hm.2) hents (me, s) (by rw [hs.out]; exact sessKeys_fresh (by omega) k l hl 0) (.pointer (some ⟨wr.heap.size, 0, none⟩))
    have hpush := ents_push hents (me, s) (.pointer (some ⟨wr.heap.size, 0, none⟩)) clock
    have hbp := born_push hborn (pairKey (me, s)) (.pointer (some ⟨wr.heap.size, 0, none⟩))
    have hsz := hbel.size
    have HC := Lib.hid (And.intro hpush hbp)
    have HM := Lib.hid (And.intro hc hm)
    clear hpush hbp
    simp only [pairKey, sessionCells] at hupd
    have HL := Lib.hid (And.intro hl (And.intro hj hsess))
    clear hl hj hsess hc hm
    go_wp2
    · have hlt : s < sess := by assumption
      obtain ⟨hl, hj, hsess⟩ := HL.out
      obtain ⟨hc, hm⟩ := HM.out
      have hm' : (wr.alloc (Obj.cells Tryz.zeroCells185 185)).heap[w.heap.size]? = some (.map es clock) := by rw [heap_alloc_lt _ _ hm.lt]; exact hm.2
      refine ⟨⟨k + 1, s + n, l ++ [((me, s), .pointer (some ⟨wr.heap.size, 0, none⟩))], _, _, rfl, ?_, by omega, by omega, ?_, ?_, (hc.alloc _).cells_putMap hm' _ _, ⟨Nat.le_refl _, putMap_at _ _ _ (lt_of_heap hm')⟩, HC.out.1, HC.out.2, ?_, ?_⟩, by simp [intOf]; omega⟩
      · have := hs.out; simp only [Hid]; rw [this]; simp only [Int.natCast_add, Int.mul_add]; omega
      · intro j hjk
        by_cases h : j = k
        · subst h; rw [← hs.out]; exact hlt
        · exact hj j (by omega)
      · rw [List.map_append, hl, sessKeys, sessKeys, List.range_succ, List.map_append]; simp [← hs.out]
      · intro p hp
        simp at hp
        rcases hp with hp | rfl
        · obtain ⟨a, ha, hat⟩ := hsess p (by simpa using hp)
          exact ⟨a, ha, (hat.alloc _).cells_putMap hm' _ _⟩
        · exact ⟨wr.heap.size, rfl, (At.new (by omega) _).cells_putMap hm' _ _⟩
      · exact Below.putMap (hbel.alloc (by omega) _) (Nat.le_refl _) _ _
    · have hge : sess ≤ s := by assumption
      obtain ⟨hl, hj, hsess⟩ := HL.out
      obtain ⟨hc, hm⟩ := HM.out
      go_ret2
      exact ⟨rfl, ⟨w.heap.size, k, l, hc, ⟨es, clock, hm, hents, hborn⟩, hl, by rw [← hs.out]; exact hge, hj, hsess⟩, hbel⟩
end Go.Proofs.YtegdpagjloidnaaGreatDoor
