/- keeper.Decode of the kinds 2, 3, 4. -/
import Derived.Test.YtegdpagjloidnaaGreatDoorDecode
import Derived.Test.YtegdpagjloidnaaGreatDoorEncode
namespace Go.Proofs.YtegdpagjloidnaaGreatDoor
open Go.RowKit Go.Conc

theorem own_any {w : World} {base n : Nat} {e : TypeId} {v : Value} {xs : List Value} (h : w.ownsRow base e 1 v n xs) : ∃ ao cap, v = .slice ao n cap := by
  rcases Joins.ownsRow_forms h with ⟨h1, h2⟩ | ⟨g, c, h1⟩
  · exact ⟨none, 0, by rw [h1, h2]⟩
  · exact ⟨_, _, h1⟩
theorem below_two (w : World) (A B : Obj) : Below w.heap.size w ((w.alloc A).alloc B).drew := Below.drew (((Below.refl _ _).alloc (Nat.le_refl _) _).alloc (by simp) _)
theorem dec_data {c : UInt8} {r : List UInt8} {k : Int} (hl : r.length < 8192) (hk : (c.toNat : Int) = k) (h : k = 2 ∨ k = 3 ∨ k = 4) : dec (c :: r) = if (Inp.ofData k r).is then (Inp.ofData k r, 0) else (Inp.zero, 220) := by
  subst hk
  unfold dec
  rw [if_neg (by simp; omega)]
  simp only [decRaw]
  rw [if_neg (by omega), if_pos (by omega)]
/-- A slice but for its first byte, as the walk writes it. -/
theorem tail_addr {w : World} {b off n cap : Nat} {c : UInt8} {r : List UInt8} (hd : Reads w (.slice (some ⟨b, off, none⟩) n cap) (c :: r)) : Reads w (.slice (some ⟨b, if cap = 1 then off else off + 1, none⟩) (n - 1) (cap - 1)) r := by
  have hn := hd.len
  simp at hn
  split
  · rename_i h
    have hcap : n ≤ cap := by
      rcases hd with ⟨h, _⟩ | ⟨b', off', cap', h, h2, h3⟩
      · simp at h
      · simp at h; obtain ⟨⟨rfl, rfl⟩, rfl, rfl⟩ := h; simpa using h2
    have hr : r = [] := List.length_eq_zero_iff.1 (by omega)
    subst hr
    refine Or.inr ⟨b, off, cap - 1, ?_, by simp, fun i hi => by simp at hi⟩
    have : n - 1 = 0 := by omega
    rw [this]; rfl
  · exact hd.drop 1 (by omega)

theorem sets8 (l : List Value) (h : l.length = 8) (a0 a1 a2 a3 a4 a5 a6 a7 : Value) : ((((((((l.set 0 a0).set 1 a1).set 2 a2).set 3 a3).set 4 a4).set 5 a5).set 6 a6).set 7 a7) = [a0, a1, a2, a3, a4, a5, a6, a7] := by
  refine List.ext_getElem (by simp [h]) fun i h1 h2 => ?_
  have h3 : i < 8 := by simpa using h2
  have : i = 0 ∨ i = 1 ∨ i = 2 ∨ i = 3 ∨ i = 4 ∨ i = 5 ∨ i = 6 ∨ i = 7 := by omega
  rcases this with rfl | rfl | rfl | rfl | rfl | rfl | rfl | rfl <;> simp
theorem row8 {w : World} {lo S : Nat} {T : TypeId} {cs : Array Value} (h : At w lo S (.cells cs T)) (hs : cs.size = 8) (a0 a1 a2 a3 a4 a5 a6 a7 : Value) :
    At ((((((((w.setCell ⟨S, 0, none⟩ a0).setCell ⟨S, 1, none⟩ a1).setCell ⟨S, 2, none⟩ a2).setCell ⟨S, 3, none⟩ a3).setCell ⟨S, 4, none⟩ a4).setCell ⟨S, 5, none⟩ a5).setCell ⟨S, 6, none⟩ a6).setCell ⟨S, 7, none⟩ a7) lo S (.cells #[a0, a1, a2, a3, a4, a5, a6, a7] T) := by
  have h8 := (((((((h.setCell 0 a0).setCell 1 a1).setCell 2 a2).setCell 3 a3).setCell 4 a4).setCell 5 a5).setCell 6 a6).setCell 7 a7
  have e : ((((((((cs.setIfInBounds 0 a0).setIfInBounds 1 a1).setIfInBounds 2 a2).setIfInBounds 3 a3).setIfInBounds 4 a4).setIfInBounds 5 a5).setIfInBounds 6 a6).setIfInBounds 7 a7) = #[a0, a1, a2, a3, a4, a5, a6, a7] := by
    apply Array.ext'
    simp only [Array.toList_setIfInBounds]
    exact sets8 cs.toList (by simpa using hs) a0 a1 a2 a3 a4 a5 a6 a7
  rw [e] at h8
  exact h8
theorem own8 {w : World} {base n S : Nat} {e : TypeId} {v : Value} {xs : List Value} (h : w.ownsRow base e 1 v n xs) (hY : S < base) (a0 a1 a2 a3 a4 a5 a6 a7 : Value) :
    ((((((((w.setCell ⟨S, 0, none⟩ a0).setCell ⟨S, 1, none⟩ a1).setCell ⟨S, 2, none⟩ a2).setCell ⟨S, 3, none⟩ a3).setCell ⟨S, 4, none⟩ a4).setCell ⟨S, 5, none⟩ a5).setCell ⟨S, 6, none⟩ a6).setCell ⟨S, 7, none⟩ a7).ownsRow base e 1 v n xs :=
  ownsRow_setCell_below (own7 h hY a0 a1 a2 a3 a4 a5 a6) (a := ⟨S, 7, none⟩) hY a7
theorem below8 {w w2 : World} {S : Nat} (h : Below S w w2) (a0 a1 a2 a3 a4 a5 a6 a7 : Value) :
    Below S w ((((((((w2.setCell ⟨S, 0, none⟩ a0).setCell ⟨S, 1, none⟩ a1).setCell ⟨S, 2, none⟩ a2).setCell ⟨S, 3, none⟩ a3).setCell ⟨S, 4, none⟩ a4).setCell ⟨S, 5, none⟩ a5).setCell ⟨S, 6, none⟩ a6).setCell ⟨S, 7, none⟩ a7) :=
  (((((((h.setCell (Nat.le_refl _) a0).setCell (Nat.le_refl _) a1).setCell (Nat.le_refl _) a2).setCell (Nat.le_refl _) a3).setCell (Nat.le_refl _) a4).setCell (Nat.le_refl _) a5).setCell (Nat.le_refl _) a6).setCell (Nat.le_refl _) a7

set_option maxHeartbeats 4000000 in
set_option maxRecDepth 100000 in
/-- The kinds 2, 3, 4. -/
theorem decode_data (b off n cap : Nat) (c : UInt8) (r : List UInt8) (k : Int) (w : World) (hd : Reads w (.slice (some ⟨b, off, none⟩) n cap) (c :: r)) (hn1 : 1 ≤ n) (hn : n ≤ 8192) (hk : (c.toNat : Int) = k) (h234 : k = 2 ∨ k = 3 ∨ k = 4) :
    Calls Tryz.prog 14 #[.slice (some ⟨b, off, none⟩) n cap] w fun e w' => ∃ dv, e = .returned (.tuple #[.agg ((dec (c :: r)).1.vals dv), .int .i64 (dec (c :: r)).2]) ∧ w'.ownsRow w.heap.size 5 1 dv (dec (c :: r)).1.data.length (Lib.byteCells (dec (c :: r)).1.data) ∧ Below w.heap.size w w' := by
  have hc : w.cell? ⟨b, off, none⟩ = some (.int .u8 c.toNat) := by
    rcases hd with ⟨h, _⟩ | ⟨b', off', cap', h, _, h3⟩
    · simp at h
    · simp at h; obtain ⟨⟨rfl, rfl⟩, _, rfl⟩ := h
      have := h3 0 (by simp)
      simpa [U8] using this
  have hbz : b < w.heap.size := World.block_lt_of_cell? w _ hc
  have hn0 : 0 < n := by omega
  have hcap : n ≤ cap := by
    rcases hd with ⟨h, _⟩ | ⟨b', off', cap', h, h2, h3⟩
    · simp at h
    · simp at h; obtain ⟨⟨rfl, rfl⟩, rfl, rfl⟩ := h; simpa using h2
  have hrl : r.length = n - 1 := by have := hd.len; simp at this; omega
  have hi1 : ¬ (8192 : Int) < (n : Int) := by omega
  have hi2 : ((n : Int) == 0) = false := by simp; omega
  have HD := Lib.hid (And.intro (tail_addr hd) hrl)
  have hE := dec_data (c := c) (r := r) (by omega) hk h234
  rw [hk] at hc
  have HE := Lib.hid hE
  clear hd hrl hE hk
  by_cases hc1 : cap = 1
  · rw [if_pos hc1] at HD
    subst hc1
    obtain rfl : n = 1 := by omega
    clear hi2
    cases hI : (Inp.ofData k r).is
    case false =>
      have HI := Lib.hid hI
      replace HE : Hid (dec (c :: r) = (Inp.zero, 220)) := by rw [HE.out, hI]; rfl
      clear hI
      rcases h234 with rfl | rfl | rfl
      all_goals
        go_enter Tryz.func14, Tryz.ntmps14
        go_wp2_with fail
        go_region
        go_wp2_with (first
          | (go_at_call 30; go_loud (refine (clone_bytes _ r _ (HD.out.1.below (below_two _ _ _) (Nat.le_refl _)) (by have := HD.out.2; omega)).mono ?_; rintro e w1 ⟨v, rfl, ho, hb⟩; obtain ⟨ao, vc, rfl⟩ := own_any ho; have AX := (two_new w _ _).1.below hb (by simp); have BX := (two_new w _ _).2.1.below hb (by simp <;> omega); have q := row_cells AX.2; have f := row_free AX.2; have q0 := row_cells BX.2; have f0 := row_free BX.2; have hz0 := hb.size; have hz := AX.lt; have hz1 := BX.lt; have HO := Lib.hid (And.intro ho (And.intro hb (And.intro AX BX))); clear ho hb AX BX hz0))
          | (go_at_call 23; go_loud (refine (input_is (Inp.ofData _ r) ao _ vc rfl _).mono ?_); go_loud (rintro e w2 ⟨rfl, rfl⟩); go_loud (rw [HI.out])))
        have hb2 := (((below_two w _ _).trans (HO.out.2.1.mono (B' := w.heap.size) (by simp <;> omega))).setCell (p := ⟨w.heap.size + 1, 7, none⟩) (by exact Nat.le_succ _) (.slice ao r.length vc))
        have hA2 := (HO.out.2.2.2.setCell_ne (b := w.heap.size + 1) (by omega) 7 none (.slice ao r.length vc))
        have hO2 := (ownsRow_setCell_below HO.out.1 (a := ⟨w.heap.size + 1, 7, none⟩) (by simp) (.slice ao r.length vc))
        rw [HE.out]
        clear q f q0 f0
        have hF := row8 hA2 rfl (.int .i64 0) (.int .i64 0) (.int .i64 0) (.int .i64 0) (.string ByteArray.empty) (.int .i64 0) (.int .i64 0) (.slice none 0 0)
        have hB := below8 hb2 (.int .i64 0) (.int .i64 0) (.int .i64 0) (.int .i64 0) (.string ByteArray.empty) (.int .i64 0) (.int .i64 0) (.slice none 0 0)
        refine bodyPost_ret (results_row_tmp rfl _ _ w.heap.size _ #[.int .i64 0, .int .i64 0, .int .i64 0, .int .i64 0, .string ByteArray.empty, .int .i64 0, .int .i64 0, .slice none 0 0] (0, 0) _ rfl (hF.alloc _).2 Tryz.underlying34 rfl (by kernel_rfl)) rfl ⟨.slice none 0 0, rfl, World.ownsRow_nil _ _ _ _, hB.alloc (by simp only [size_setCell]; omega) _⟩
    case true =>
      have HI := Lib.hid hI
      replace HE : Hid (dec (c :: r) = (Inp.ofData k r, 0)) := by rw [HE.out, hI]; rfl
      clear hI
      rcases h234 with rfl | rfl | rfl
      · go_enter Tryz.func14, Tryz.ntmps14
        go_wp2_with fail
        go_region
        go_wp2_with (first
          | (go_at_call 30; go_loud (refine (clone_bytes _ r _ (HD.out.1.below (below_two _ _ _) (Nat.le_refl _)) (by have := HD.out.2; omega)).mono ?_; rintro e w1 ⟨v, rfl, ho, hb⟩; obtain ⟨ao, vc, rfl⟩ := own_any ho; have AX := (two_new w _ _).1.below hb (by simp); have BX := (two_new w _ _).2.1.below hb (by simp <;> omega); have q := row_cells AX.2; have f := row_free AX.2; have q0 := row_cells BX.2; have f0 := row_free BX.2; have hz0 := hb.size; have hz := AX.lt; have hz1 := BX.lt; have HO := Lib.hid (And.intro ho (And.intro hb (And.intro AX BX))); clear ho hb AX BX hz0))
          | (go_at_call 23; go_loud (refine (input_is (Inp.ofData _ r) ao _ vc rfl _).mono ?_); go_loud (rintro e w2 ⟨rfl, rfl⟩); go_loud (rw [HI.out])))
        have hb2 := (((below_two w _ _).trans (HO.out.2.1.mono (B' := w.heap.size) (by simp <;> omega))).setCell (p := ⟨w.heap.size + 1, 7, none⟩) (by exact Nat.le_succ _) (.slice ao r.length vc))
        have hA2 := (HO.out.2.2.2.setCell_ne (b := w.heap.size + 1) (by omega) 7 none (.slice ao r.length vc))
        have hO2 := (ownsRow_setCell_below HO.out.1 (a := ⟨w.heap.size + 1, 7, none⟩) (by simp) (.slice ao r.length vc))
        rw [HE.out]
        clear q f q0 f0
        have hF := row8 hA2 rfl (.int .i64 2) (.int .i64 0) (.int .i64 0) (.int .i64 0) (.string ByteArray.empty) (.int .i64 0) (.int .i64 0) (.slice ao r.length vc)
        have hB := below8 hb2 (.int .i64 2) (.int .i64 0) (.int .i64 0) (.int .i64 0) (.string ByteArray.empty) (.int .i64 0) (.int .i64 0) (.slice ao r.length vc)
        refine bodyPost_ret (results_row_tmp rfl _ _ w.heap.size _ #[.int .i64 2, .int .i64 0, .int .i64 0, .int .i64 0, .string ByteArray.empty, .int .i64 0, .int .i64 0, .slice ao r.length vc] (0, 0) _ rfl (hF.alloc _).2 Tryz.underlying34 rfl (by kernel_rfl)) rfl ⟨.slice ao r.length vc, rfl, Joins.ownsRow_le ((own8 hO2 (by simp <;> omega) (.int .i64 2) (.int .i64 0) (.int .i64 0) (.int .i64 0) (.string ByteArray.empty) (.int .i64 0) (.int .i64 0) (.slice ao r.length vc)).alloc _) (by simp <;> omega), hB.alloc (by simp only [size_setCell]; omega) _⟩
      · go_enter Tryz.func14, Tryz.ntmps14
        go_wp2_with fail
        go_region
        go_wp2_with (first
          | (go_at_call 30; go_loud (refine (clone_bytes _ r _ (HD.out.1.below (below_two _ _ _) (Nat.le_refl _)) (by have := HD.out.2; omega)).mono ?_; rintro e w1 ⟨v, rfl, ho, hb⟩; obtain ⟨ao, vc, rfl⟩ := own_any ho; have AX := (two_new w _ _).1.below hb (by simp); have BX := (two_new w _ _).2.1.below hb (by simp <;> omega); have q := row_cells AX.2; have f := row_free AX.2; have q0 := row_cells BX.2; have f0 := row_free BX.2; have hz0 := hb.size; have hz := AX.lt; have hz1 := BX.lt; have HO := Lib.hid (And.intro ho (And.intro hb (And.intro AX BX))); clear ho hb AX BX hz0))
          | (go_at_call 23; go_loud (refine (input_is (Inp.ofData _ r) ao _ vc rfl _).mono ?_); go_loud (rintro e w2 ⟨rfl, rfl⟩); go_loud (rw [HI.out])))
        have hb2 := (((below_two w _ _).trans (HO.out.2.1.mono (B' := w.heap.size) (by simp <;> omega))).setCell (p := ⟨w.heap.size + 1, 7, none⟩) (by exact Nat.le_succ _) (.slice ao r.length vc))
        have hA2 := (HO.out.2.2.2.setCell_ne (b := w.heap.size + 1) (by omega) 7 none (.slice ao r.length vc))
        have hO2 := (ownsRow_setCell_below HO.out.1 (a := ⟨w.heap.size + 1, 7, none⟩) (by simp) (.slice ao r.length vc))
        rw [HE.out]
        clear q f q0 f0
        have hF := row8 hA2 rfl (.int .i64 3) (.int .i64 0) (.int .i64 0) (.int .i64 0) (.string ByteArray.empty) (.int .i64 0) (.int .i64 0) (.slice ao r.length vc)
        have hB := below8 hb2 (.int .i64 3) (.int .i64 0) (.int .i64 0) (.int .i64 0) (.string ByteArray.empty) (.int .i64 0) (.int .i64 0) (.slice ao r.length vc)
        refine bodyPost_ret (results_row_tmp rfl _ _ w.heap.size _ #[.int .i64 3, .int .i64 0, .int .i64 0, .int .i64 0, .string ByteArray.empty, .int .i64 0, .int .i64 0, .slice ao r.length vc] (0, 0) _ rfl (hF.alloc _).2 Tryz.underlying34 rfl (by kernel_rfl)) rfl ⟨.slice ao r.length vc, rfl, Joins.ownsRow_le ((own8 hO2 (by simp <;> omega) (.int .i64 3) (.int .i64 0) (.int .i64 0) (.int .i64 0) (.string ByteArray.empty) (.int .i64 0) (.int .i64 0) (.slice ao r.length vc)).alloc _) (by simp <;> omega), hB.alloc (by simp only [size_setCell]; omega) _⟩
      · go_enter Tryz.func14, Tryz.ntmps14
        go_wp2_with fail
        go_region
        go_wp2_with (first
          | (go_at_call 30; go_loud (refine (clone_bytes _ r _ (HD.out.1.below (below_two _ _ _) (Nat.le_refl _)) (by have := HD.out.2; omega)).mono ?_; rintro e w1 ⟨v, rfl, ho, hb⟩; obtain ⟨ao, vc, rfl⟩ := own_any ho; have AX := (two_new w _ _).1.below hb (by simp); have BX := (two_new w _ _).2.1.below hb (by simp <;> omega); have q := row_cells AX.2; have f := row_free AX.2; have q0 := row_cells BX.2; have f0 := row_free BX.2; have hz0 := hb.size; have hz := AX.lt; have hz1 := BX.lt; have HO := Lib.hid (And.intro ho (And.intro hb (And.intro AX BX))); clear ho hb AX BX hz0))
          | (go_at_call 23; go_loud (refine (input_is (Inp.ofData _ r) ao _ vc rfl _).mono ?_); go_loud (rintro e w2 ⟨rfl, rfl⟩); go_loud (rw [HI.out])))
        have hb2 := (((below_two w _ _).trans (HO.out.2.1.mono (B' := w.heap.size) (by simp <;> omega))).setCell (p := ⟨w.heap.size + 1, 7, none⟩) (by exact Nat.le_succ _) (.slice ao r.length vc))
        have hA2 := (HO.out.2.2.2.setCell_ne (b := w.heap.size + 1) (by omega) 7 none (.slice ao r.length vc))
        have hO2 := (ownsRow_setCell_below HO.out.1 (a := ⟨w.heap.size + 1, 7, none⟩) (by simp) (.slice ao r.length vc))
        rw [HE.out]
        clear q f q0 f0
        have hF := row8 hA2 rfl (.int .i64 4) (.int .i64 0) (.int .i64 0) (.int .i64 0) (.string ByteArray.empty) (.int .i64 0) (.int .i64 0) (.slice ao r.length vc)
        have hB := below8 hb2 (.int .i64 4) (.int .i64 0) (.int .i64 0) (.int .i64 0) (.string ByteArray.empty) (.int .i64 0) (.int .i64 0) (.slice ao r.length vc)
        refine bodyPost_ret (results_row_tmp rfl _ _ w.heap.size _ #[.int .i64 4, .int .i64 0, .int .i64 0, .int .i64 0, .string ByteArray.empty, .int .i64 0, .int .i64 0, .slice ao r.length vc] (0, 0) _ rfl (hF.alloc _).2 Tryz.underlying34 rfl (by kernel_rfl)) rfl ⟨.slice ao r.length vc, rfl, Joins.ownsRow_le ((own8 hO2 (by simp <;> omega) (.int .i64 4) (.int .i64 0) (.int .i64 0) (.int .i64 0) (.string ByteArray.empty) (.int .i64 0) (.int .i64 0) (.slice ao r.length vc)).alloc _) (by simp <;> omega), hB.alloc (by simp only [size_setCell]; omega) _⟩
  · have hc2 : 1 < cap := by omega
    rw [if_neg hc1] at HD
    cases hI : (Inp.ofData k r).is
    case false =>
      have HI := Lib.hid hI
      replace HE : Hid (dec (c :: r) = (Inp.zero, 220)) := by rw [HE.out, hI]; rfl
      clear hI
      rcases h234 with rfl | rfl | rfl
      all_goals
        go_enter Tryz.func14, Tryz.ntmps14
        go_wp2_with fail
        go_region
        go_wp2_with (first
          | (go_at_call 30; go_loud (refine (clone_bytes _ r _ (HD.out.1.below (below_two _ _ _) (Nat.le_refl _)) (by have := HD.out.2; omega)).mono ?_; rintro e w1 ⟨v, rfl, ho, hb⟩; obtain ⟨ao, vc, rfl⟩ := own_any ho; have AX := (two_new w _ _).1.below hb (by simp); have BX := (two_new w _ _).2.1.below hb (by simp <;> omega); have q := row_cells AX.2; have f := row_free AX.2; have q0 := row_cells BX.2; have f0 := row_free BX.2; have hz0 := hb.size; have hz := AX.lt; have hz1 := BX.lt; have HO := Lib.hid (And.intro ho (And.intro hb (And.intro AX BX))); clear ho hb AX BX hz0))
          | (go_at_call 23; go_loud (refine (input_is (Inp.ofData _ r) ao _ vc rfl _).mono ?_); go_loud (rintro e w2 ⟨rfl, rfl⟩); go_loud (rw [HI.out])))
        have hb2 := (((below_two w _ _).trans (HO.out.2.1.mono (B' := w.heap.size) (by simp <;> omega))).setCell (p := ⟨w.heap.size + 1, 7, none⟩) (by exact Nat.le_succ _) (.slice ao r.length vc))
        have hA2 := (HO.out.2.2.2.setCell_ne (b := w.heap.size + 1) (by omega) 7 none (.slice ao r.length vc))
        have hO2 := (ownsRow_setCell_below HO.out.1 (a := ⟨w.heap.size + 1, 7, none⟩) (by simp) (.slice ao r.length vc))
        rw [HE.out]
        clear q f q0 f0
        have hF := row8 hA2 rfl (.int .i64 0) (.int .i64 0) (.int .i64 0) (.int .i64 0) (.string ByteArray.empty) (.int .i64 0) (.int .i64 0) (.slice none 0 0)
        have hB := below8 hb2 (.int .i64 0) (.int .i64 0) (.int .i64 0) (.int .i64 0) (.string ByteArray.empty) (.int .i64 0) (.int .i64 0) (.slice none 0 0)
        refine bodyPost_ret (results_row_tmp rfl _ _ w.heap.size _ #[.int .i64 0, .int .i64 0, .int .i64 0, .int .i64 0, .string ByteArray.empty, .int .i64 0, .int .i64 0, .slice none 0 0] (0, 0) _ rfl (hF.alloc _).2 Tryz.underlying34 rfl (by kernel_rfl)) rfl ⟨.slice none 0 0, rfl, World.ownsRow_nil _ _ _ _, hB.alloc (by simp only [size_setCell]; omega) _⟩
    case true =>
      have HI := Lib.hid hI
      replace HE : Hid (dec (c :: r) = (Inp.ofData k r, 0)) := by rw [HE.out, hI]; rfl
      clear hI
      rcases h234 with rfl | rfl | rfl
      · go_enter Tryz.func14, Tryz.ntmps14
        go_wp2_with fail
        go_region
        go_wp2_with (first
          | (go_at_call 30; go_loud (refine (clone_bytes _ r _ (HD.out.1.below (below_two _ _ _) (Nat.le_refl _)) (by have := HD.out.2; omega)).mono ?_; rintro e w1 ⟨v, rfl, ho, hb⟩; obtain ⟨ao, vc, rfl⟩ := own_any ho; have AX := (two_new w _ _).1.below hb (by simp); have BX := (two_new w _ _).2.1.below hb (by simp <;> omega); have q := row_cells AX.2; have f := row_free AX.2; have q0 := row_cells BX.2; have f0 := row_free BX.2; have hz0 := hb.size; have hz := AX.lt; have hz1 := BX.lt; have HO := Lib.hid (And.intro ho (And.intro hb (And.intro AX BX))); clear ho hb AX BX hz0))
          | (go_at_call 23; go_loud (refine (input_is (Inp.ofData _ r) ao _ vc rfl _).mono ?_); go_loud (rintro e w2 ⟨rfl, rfl⟩); go_loud (rw [HI.out])))
        have hb2 := (((below_two w _ _).trans (HO.out.2.1.mono (B' := w.heap.size) (by simp <;> omega))).setCell (p := ⟨w.heap.size + 1, 7, none⟩) (by exact Nat.le_succ _) (.slice ao r.length vc))
        have hA2 := (HO.out.2.2.2.setCell_ne (b := w.heap.size + 1) (by omega) 7 none (.slice ao r.length vc))
        have hO2 := (ownsRow_setCell_below HO.out.1 (a := ⟨w.heap.size + 1, 7, none⟩) (by simp) (.slice ao r.length vc))
        rw [HE.out]
        clear q f q0 f0
        have hF := row8 hA2 rfl (.int .i64 2) (.int .i64 0) (.int .i64 0) (.int .i64 0) (.string ByteArray.empty) (.int .i64 0) (.int .i64 0) (.slice ao r.length vc)
        have hB := below8 hb2 (.int .i64 2) (.int .i64 0) (.int .i64 0) (.int .i64 0) (.string ByteArray.empty) (.int .i64 0) (.int .i64 0) (.slice ao r.length vc)
        refine bodyPost_ret (results_row_tmp rfl _ _ w.heap.size _ #[.int .i64 2, .int .i64 0, .int .i64 0, .int .i64 0, .string ByteArray.empty, .int .i64 0, .int .i64 0, .slice ao r.length vc] (0, 0) _ rfl (hF.alloc _).2 Tryz.underlying34 rfl (by kernel_rfl)) rfl ⟨.slice ao r.length vc, rfl, Joins.ownsRow_le ((own8 hO2 (by simp <;> omega) (.int .i64 2) (.int .i64 0) (.int .i64 0) (.int .i64 0) (.string ByteArray.empty) (.int .i64 0) (.int .i64 0) (.slice ao r.length vc)).alloc _) (by simp <;> omega), hB.alloc (by simp only [size_setCell]; omega) _⟩
      · go_enter Tryz.func14, Tryz.ntmps14
        go_wp2_with fail
        go_region
        go_wp2_with (first
          | (go_at_call 30; go_loud (refine (clone_bytes _ r _ (HD.out.1.below (below_two _ _ _) (Nat.le_refl _)) (by have := HD.out.2; omega)).mono ?_; rintro e w1 ⟨v, rfl, ho, hb⟩; obtain ⟨ao, vc, rfl⟩ := own_any ho; have AX := (two_new w _ _).1.below hb (by simp); have BX := (two_new w _ _).2.1.below hb (by simp <;> omega); have q := row_cells AX.2; have f := row_free AX.2; have q0 := row_cells BX.2; have f0 := row_free BX.2; have hz0 := hb.size; have hz := AX.lt; have hz1 := BX.lt; have HO := Lib.hid (And.intro ho (And.intro hb (And.intro AX BX))); clear ho hb AX BX hz0))
          | (go_at_call 23; go_loud (refine (input_is (Inp.ofData _ r) ao _ vc rfl _).mono ?_); go_loud (rintro e w2 ⟨rfl, rfl⟩); go_loud (rw [HI.out])))
        have hb2 := (((below_two w _ _).trans (HO.out.2.1.mono (B' := w.heap.size) (by simp <;> omega))).setCell (p := ⟨w.heap.size + 1, 7, none⟩) (by exact Nat.le_succ _) (.slice ao r.length vc))
        have hA2 := (HO.out.2.2.2.setCell_ne (b := w.heap.size + 1) (by omega) 7 none (.slice ao r.length vc))
        have hO2 := (ownsRow_setCell_below HO.out.1 (a := ⟨w.heap.size + 1, 7, none⟩) (by simp) (.slice ao r.length vc))
        rw [HE.out]
        clear q f q0 f0
        have hF := row8 hA2 rfl (.int .i64 3) (.int .i64 0) (.int .i64 0) (.int .i64 0) (.string ByteArray.empty) (.int .i64 0) (.int .i64 0) (.slice ao r.length vc)
        have hB := below8 hb2 (.int .i64 3) (.int .i64 0) (.int .i64 0) (.int .i64 0) (.string ByteArray.empty) (.int .i64 0) (.int .i64 0) (.slice ao r.length vc)
        refine bodyPost_ret (results_row_tmp rfl _ _ w.heap.size _ #[.int .i64 3, .int .i64 0, .int .i64 0, .int .i64 0, .string ByteArray.empty, .int .i64 0, .int .i64 0, .slice ao r.length vc] (0, 0) _ rfl (hF.alloc _).2 Tryz.underlying34 rfl (by kernel_rfl)) rfl ⟨.slice ao r.length vc, rfl, Joins.ownsRow_le ((own8 hO2 (by simp <;> omega) (.int .i64 3) (.int .i64 0) (.int .i64 0) (.int .i64 0) (.string ByteArray.empty) (.int .i64 0) (.int .i64 0) (.slice ao r.length vc)).alloc _) (by simp <;> omega), hB.alloc (by simp only [size_setCell]; omega) _⟩
      · go_enter Tryz.func14, Tryz.ntmps14
        go_wp2_with fail
        go_region
        go_wp2_with (first
          | (go_at_call 30; go_loud (refine (clone_bytes _ r _ (HD.out.1.below (below_two _ _ _) (Nat.le_refl _)) (by have := HD.out.2; omega)).mono ?_; rintro e w1 ⟨v, rfl, ho, hb⟩; obtain ⟨ao, vc, rfl⟩ := own_any ho; have AX := (two_new w _ _).1.below hb (by simp); have BX := (two_new w _ _).2.1.below hb (by simp <;> omega); have q := row_cells AX.2; have f := row_free AX.2; have q0 := row_cells BX.2; have f0 := row_free BX.2; have hz0 := hb.size; have hz := AX.lt; have hz1 := BX.lt; have HO := Lib.hid (And.intro ho (And.intro hb (And.intro AX BX))); clear ho hb AX BX hz0))
          | (go_at_call 23; go_loud (refine (input_is (Inp.ofData _ r) ao _ vc rfl _).mono ?_); go_loud (rintro e w2 ⟨rfl, rfl⟩); go_loud (rw [HI.out])))
        have hb2 := (((below_two w _ _).trans (HO.out.2.1.mono (B' := w.heap.size) (by simp <;> omega))).setCell (p := ⟨w.heap.size + 1, 7, none⟩) (by exact Nat.le_succ _) (.slice ao r.length vc))
        have hA2 := (HO.out.2.2.2.setCell_ne (b := w.heap.size + 1) (by omega) 7 none (.slice ao r.length vc))
        have hO2 := (ownsRow_setCell_below HO.out.1 (a := ⟨w.heap.size + 1, 7, none⟩) (by simp) (.slice ao r.length vc))
        rw [HE.out]
        clear q f q0 f0
        have hF := row8 hA2 rfl (.int .i64 4) (.int .i64 0) (.int .i64 0) (.int .i64 0) (.string ByteArray.empty) (.int .i64 0) (.int .i64 0) (.slice ao r.length vc)
        have hB := below8 hb2 (.int .i64 4) (.int .i64 0) (.int .i64 0) (.int .i64 0) (.string ByteArray.empty) (.int .i64 0) (.int .i64 0) (.slice ao r.length vc)
        refine bodyPost_ret (results_row_tmp rfl _ _ w.heap.size _ #[.int .i64 4, .int .i64 0, .int .i64 0, .int .i64 0, .string ByteArray.empty, .int .i64 0, .int .i64 0, .slice ao r.length vc] (0, 0) _ rfl (hF.alloc _).2 Tryz.underlying34 rfl (by kernel_rfl)) rfl ⟨.slice ao r.length vc, rfl, Joins.ownsRow_le ((own8 hO2 (by simp <;> omega) (.int .i64 4) (.int .i64 0) (.int .i64 0) (.int .i64 0) (.string ByteArray.empty) (.int .i64 0) (.int .i64 0) (.slice ao r.length vc)).alloc _) (by simp <;> omega), hB.alloc (by simp only [size_setCell]; omega) _⟩
end Go.Proofs.YtegdpagjloidnaaGreatDoor
