/- The statements' helpers lend and program. -/
import Derived.Test.YtegdpagjloidnaaGreatDoorAlive
namespace Go.Proofs.YtegdpagjloidnaaGreatDoor
open Go.RowKit Go.Conc

/-- As Reads; an empty slice may bear whatever address. -/
def ReadsA (w : World) (v : Value) (xs : List UInt8) : Prop := Reads w v xs ∨ (xs = [] ∧ ∃ a, v = .slice (some a) 0 0)
theorem ReadsA.len {w : World} {a : Option Addr} {n cap : Nat} {xs : List UInt8} (h : ReadsA w (.slice a n cap) xs) : xs.length = n := by
  rcases h with h | ⟨rfl, b, h⟩
  · exact h.len
  · simp at h; simp [h.2.1]
theorem ReadsA.below {w w' : World} {v : Value} {xs : List UInt8} {B : Nat} (h : ReadsA w v xs) (hb : Below B w w') (hB : w.heap.size ≤ B) : ReadsA w' v xs := by
  rcases h with h | h
  · exact Or.inl (h.below hb hB)
  · exact Or.inr h
theorem run_string_ofA {w : World} {v : Value} {xs : List UInt8} (h : ReadsA w v xs) : (convert 26 9 v).run Tryz.prog w = .ok (.string ⟨xs.toArray⟩) w := by
  rcases h with h | ⟨rfl, a, rfl⟩
  · exact run_string_of h
  · rw [run_convert_bytes_string w 26 9 5 _ 0 0 Tryz.underlying26 Tryz.underlying5 Tryz.underlying9]
    simp [Conv.bytesToString, loadCells, loadCellsFrom]
    rfl
set_option maxHeartbeats 4000000 in
set_option maxRecDepth 100000 in
theorem decode_empty (a : Addr) (w : World) :
    Calls Tryz.prog 14 #[.slice (some a) 0 0] w fun e w' => e = .returned (.tuple #[.agg (Inp.zero.vals (.slice none 0 0)), .int .i64 220]) ∧ Below w.heap.size w w' := by
  rw [zero_row]
  have hrow := heap_alloc_at w (.cells (Inp.zero.vals (.slice none 0 0)) 34)
  rw [zero_row] at hrow
  have HROW := Lib.hid hrow
  clear hrow
  go_enter Tryz.func14, Tryz.ntmps14
  go_wp2
  exact bodyPost_ret (results_row_tmp rfl _ _ w.heap.size _ _ (0, 0) _ rfl HROW.out Tryz.underlying34 rfl (by kernel_rfl)) rfl ⟨rfl, (Below.refl _ _).alloc (Nat.le_refl _) _⟩

theorem take_succ_cells (xs : List UInt8) (k : Nat) (hk : k < xs.length) : Lib.byteCells (xs.take k) ++ [.int .u8 ((xs.getD k 0).toNat : Int)] = Lib.byteCells (xs.take (k + 1)) := by
  rw [List.take_succ_eq_append_getElem hk, Lib.byteCells, Lib.byteCells, List.map_append]
  simp [List.getD, hk]

set_option maxHeartbeats 4000000 in
set_option maxRecDepth 100000 in
theorem lend_bytes (dv : Value) (xs : List UInt8) (w : World) (hd : ReadsA w dv xs) (hl : xs.length ≤ 65536) :
    Calls Tryz.prog 7 #[dv] w fun e w' => ∃ v, e = .returned v ∧ w'.ownsRow w.heap.size 5 1 v (xs.length + 3) (Lib.byteCells (xs ++ [167, 182, 197])) ∧ Below w.heap.size w w' := by
  obtain ⟨ao, n, cap, rfl, hn⟩ : ∃ ao n cap, dv = .slice ao n cap ∧ xs.length = n := by
    rcases hd with (⟨h, rfl⟩ | ⟨b, off, cap, rfl, _, _⟩) | ⟨h, a, rfl⟩
    · exact ⟨_, _, _, rfl, by rw [h]; rfl⟩
    · exact ⟨_, _, _, rfl, rfl⟩
    · exact ⟨_, _, _, rfl, by rw [h]; rfl⟩
  have hn6 : n ≤ 65536 := by omega
  have HD := Lib.hid (And.intro hd hn)
  clear hd hn hl
  go_enter Tryz.func7, Tryz.ntmps7
  go_wp2
  go_loopw [3, 4] (fun v3 v4 wr => ∃ (k : Nat), v4 = .int .i64 k ∧ k ≤ n ∧ wr.ownsRow w.heap.size 5 1 v3 k (Lib.byteCells (xs.take k)) ∧ Below w.heap.size w wr) (fun _ v _ => n + 1 - (intOf v).toNat)
  case atStart => exact ⟨0, rfl, by omega, World.ownsRow_nil _ _ _ _, Below.refl _ _⟩
  case round =>
    obtain ⟨k, rfl, hk, hown, hbel⟩ := hrel
    have hsz := hbel.size
    by_cases hkn : k < n
    · have hxl : k < xs.length := by have := HD.out.2; omega
      obtain ⟨b, off, rfl, hc⟩ : ∃ b off, ao = some ⟨b, off, none⟩ ∧ w.cell? ⟨b, off + k, none⟩ = some (.int .u8 ((xs.getD k 0).toNat : Int)) := by
        rcases HD.out.1 with (⟨h, h'⟩ | ⟨b, off, cap', h, _, h3⟩) | ⟨h, _⟩
        rotate_right
        · subst h; simp at hxl
        · subst h; simp at hxl
        · simp only [Value.slice.injEq] at h
          exact ⟨b, off, h.1, h3 k hxl⟩
      have hc1 : wr.cell? ⟨b, off + k, none⟩ = some (.int .u8 ((xs.getD k 0).toNat : Int)) := by
        rw [hbel.cell (p := ⟨b, off + k, none⟩) (World.block_lt_of_cell? w _ hc)]; exact hc
      have HO1 := Lib.hid hown
      clear hown hc
      go_wp2_with (at_builtin; refine wpList_app_one Tryz.underlying26 infoU8 rfl rfl _ _ rfl w.heap.size _ k _ rfl HO1.out _ _ rfl rfl rfl (by omega) (by unfold maxLen; omega) (by omega) ?_; intro v' w1 hown' hgrow; have HG := Lib.hid (And.intro hown' hgrow); clear hown' hgrow)
      have hb1 : Below w.heap.size w w1 := (hbel.alloc (by omega) _).grown HG.out.2 (by simp; omega) (fun k hk => (HO1.out.lt k hk).1)
      refine ⟨⟨k + 1, by simp, by omega, ?_, hb1⟩, by simp [intOf]; omega⟩
      rw [← take_succ_cells xs k hxl]
      simpa [List.getD, hxl] using HG.out.1
    · obtain rfl : k = n := by omega
      have e1 : xs.take k = xs := List.take_of_length_le (by have := HD.out.2; omega)
      rw [e1] at hown
      obtain ⟨v1, W1, hr1, ho1, hg1⟩ := run_app_data (W := wr.alloc (.cells #[.int .u8 167, .int .u8 182, .int .u8 197] 5)) (hown.alloc _) (reads_lit [167, 182, 197] _ 3 rfl (by simp [U8])) (by omega) (by decide) (by rw [size_alloc']; omega)
      have hb1 := (hbel.alloc hsz (.cells #[.int .u8 167, .int .u8 182, .int .u8 197] 5)).grown hg1 (by rw [size_alloc']; omega) (fun k hk => (hown.lt k hk).1)
      have HO := Lib.hid (And.intro ho1 hb1)
      have HR := Lib.hid hr1
      have HL := Lib.hid HD.out.2
      clear hown hbel ho1 hg1 hb1 hr1
      go_wp2_with (at_builtin; refine wpList_of_append rfl _ _ _ _ rfl _ _ rfl rfl HR.out ?_)
      go_ret
      refine ⟨_, rfl, ?_, HO.out.2⟩
      rw [HL.out]
      exact HO.out.1

/-- What lend answers, cut to what was lent. -/
theorem lend_cut (dv : Value) (xs : List UInt8) (n : Nat) (hn : xs.length = n) (w : World) (hd : ReadsA w dv xs) (hl : xs.length ≤ 65536) :
    Calls Tryz.prog 7 #[dv] w fun e w' => ∃ g c, e = .returned (.slice (some ⟨g, 0, none⟩) (n + 3) c) ∧ n + 3 ≤ c ∧ Reads w' (.slice (some ⟨g, 0, none⟩) n c) xs ∧ w'.ownsRow w.heap.size 5 1 (.slice (some ⟨g, 0, none⟩) (n + 3) c) (n + 3) (Lib.byteCells (xs ++ [167, 182, 197])) ∧ Below w.heap.size w w' := by
  subst hn
  refine (lend_bytes dv xs w hd hl).mono ?_
  rintro e w1 ⟨v, rfl, ho, hb⟩
  obtain ⟨g, c, rfl⟩ := Joins.ownsRow_form ho (by omega)
  have hr : Reads w1 (.slice (some ⟨g, 0, none⟩) (xs.length + 3) c) (xs ++ [167, 182, 197]) := reads_own (by exact ho)
  have hc := hr.cap_le
  have hr' : Reads w1 (.slice (some ⟨g, 0, none⟩) (xs ++ [167, 182, 197]).length c) (xs ++ [167, 182, 197]) := by simpa using hr
  have ht := hr'.take xs.length (by simp) c (by omega)
  rw [List.take_left'] at ht
  · exact ⟨g, c, rfl, hc, ht, ho, hb⟩
  · rfl

theorem results_row1 {P : Program} {fn : Func} {p : Tmp} {ty : TypeId} (h : fn.results = #[.cell p ty]) (tmps : Array Value) (w : World) (g : Nat) (t : TypeId) (cs : Array Value) (fr : Nat × Nat) (d : TypeDesc)
    (hp : tmps.getD p undef = .pointer (some ⟨g, 0, none⟩)) (hg : w.heap[g]? = some (.cells cs t fr))
    (hu : P.underlying ty = some d) (hd : (match d with | .struct _ | .array _ _ => true | _ => false) = true) (hi : (P.info? ty).map (·.size) = some cs.size) :
    (results fn tmps).run P w = .ok (.agg cs) w := by
  have hp' : tmps[p]?.getD undef = .pointer (some ⟨g, 0, none⟩) := by simpa using hp
  simp [results, h, hp', asAddr, run_loadVar_row w g t ty cs fr d hg hu hd hi]

set_option maxHeartbeats 4000000 in
set_option maxRecDepth 100000 in
theorem program_input (x : Inp) (d : Value) (ao : Option Addr) (n cap : Nat) (w : World) :
    Calls Tryz.prog 9 #[.agg (x.vals d), .slice ao n cap] w fun e w' => e = .returned (.agg (x.vals (.slice ao n cap))) ∧ Below w.heap.size w w' := by
  unfold Inp.vals
  have hT := two_new w
  go_enter Tryz.func9, Tryz.ntmps9
  go_wp2
  refine bodyPost_ret (results_row1 rfl _ _ (w.heap.size + 1) _ _ (0, 0) _ rfl (by simpa using heap_alloc_at (w.alloc _) (.cells _ 34)) Tryz.underlying34 rfl (by kernel_rfl)) rfl ⟨rfl, ((Below.refl _ _).alloc (Nat.le_refl _) _).alloc (by simp) _⟩
end Go.Proofs.YtegdpagjloidnaaGreatDoor
