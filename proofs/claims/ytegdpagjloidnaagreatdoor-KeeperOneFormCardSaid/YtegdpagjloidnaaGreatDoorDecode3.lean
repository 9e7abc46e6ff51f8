/- keeper.Decode of a call. -/
import Derived.Test.YtegdpagjloidnaaGreatDoorDecode2
namespace Go.Proofs.YtegdpagjloidnaaGreatDoor
open Go.RowKit Go.Conc

def callRow (l : List Int) : Array Value := #[.int .i64 1, .int .i64 (l.getD 0 0), .int .i64 (l.getD 1 0), .int .i64 (l.getD 2 0), .string ByteArray.empty, .int .i64 (l.getD 3 0), .int .i64 (l.getD 4 0), .slice none 0 0]
theorem call_step (X k : Nat) (l : List Int) (hl : l.length = k) (hk : k < 5) (x : Int) :
    ∃ j v0, (numRow X)[k]? = some (.pointer (some ⟨X, j, none⟩)) ∧ (callRow l)[j]? = some v0 ∧ (callRow l).setIfInBounds j (.int .i64 x) = callRow (l ++ [x]) := by
  match l, k, hl, hk with
  | [], 0, _, _ => exact ⟨1, _, rfl, rfl, rfl⟩
  | [a], 1, _, _ => exact ⟨2, _, rfl, rfl, rfl⟩
  | [a, b], 2, _, _ => exact ⟨3, _, rfl, rfl, rfl⟩
  | [a, b, c], 3, _, _ => exact ⟨5, _, rfl, rfl, rfl⟩
  | [a, b, c, d], 4, _, _ => exact ⟨6, _, rfl, rfl, rfl⟩
theorem dec_call_some {c : UInt8} {r : List UInt8} {l : List Int} {q : List UInt8} (hl : r.length < 8192) (hk : c.toNat = 1) (h : rdNums 5 r = some (l, q)) : dec (c :: r) = (Inp.ofNums 1 l ⟨q.toArray⟩, 0) := by
  unfold dec
  rw [if_neg (by simp; omega)]
  simp only [decRaw]
  rw [if_pos hk, h]
  simp [Inp.is, Inp.ofNums]
theorem dec_call_none {c : UInt8} {r : List UInt8} (hl : r.length < 8192) (hk : c.toNat = 1) (h : rdNums 5 r = none) : dec (c :: r) = (Inp.zero, 220) := by
  unfold dec
  rw [if_neg (by simp; omega)]
  simp only [decRaw]
  rw [if_pos hk, h]
/-- What is left behind s bytes, as the walk writes it. -/
theorem Reads.drop_at {w : World} {b off n cap s : Nat} {xs : List UInt8} (hd : Reads w (.slice (some ⟨b, off, none⟩) n cap) xs) (hs : s ≤ n) : Reads w (.slice (some ⟨b, if cap = s then off else off + s, none⟩) (n - s) (cap - s)) (xs.drop s) := by
  have hn := hd.len
  split
  · rename_i h
    have hcap : n ≤ cap := by
      rcases hd with ⟨h, h'⟩ | ⟨b', off', cap', h, h2, h3⟩
      · simp at h'
      · simp at h; obtain ⟨⟨rfl, rfl⟩, rfl, rfl⟩ := h; simpa using h2
    have hr : xs.drop s = [] := List.drop_eq_nil_of_le (by omega)
    rw [hr]
    refine Or.inr ⟨b, off, cap - s, ?_, by simp, fun i hi => by simp at hi⟩
    have : n - s = 0 := by omega
    rw [this]; rfl
  · exact hd.drop s hs
theorem Reads.cap_le {w : World} {b off n cap : Nat} {xs : List UInt8} (hd : Reads w (.slice (some ⟨b, off, none⟩) n cap) xs) : n ≤ cap := by
  rcases hd with ⟨h, h'⟩ | ⟨b', off', cap', h, h2, h3⟩
  · simp at h'
  · simp at h; obtain ⟨⟨rfl, rfl⟩, rfl, rfl⟩ := h; simpa using h2
theorem Reads.setCell {w : World} {b off n cap : Nat} {xs : List UInt8} (hd : Reads w (.slice (some ⟨b, off, none⟩) n cap) xs) {X : Nat} (hX : b ≠ X) (o : Nat) (v : Value) : Reads (w.setCell ⟨X, o, none⟩ v) (.slice (some ⟨b, off, none⟩) n cap) xs := by
  rcases hd with ⟨h, h'⟩ | ⟨b', off', cap', h, h2, h3⟩
  · simp at h'
  · refine Or.inr ⟨b', off', cap', h, h2, fun i hi => ?_⟩
    simp at h; obtain ⟨⟨rfl, rfl⟩, rfl, rfl⟩ := h
    have := h3 i hi
    simp only [World.cell?] at this ⊢
    rw [Below.heap_setCell _ _ _ _ (by show b ≠ X; exact hX)]; exact this

set_option maxHeartbeats 4000000 in
set_option maxRecDepth 100000 in
theorem decode_call (b off n cap : Nat) (c : UInt8) (r : List UInt8) (w : World) (hd : Reads w (.slice (some ⟨b, off, none⟩) n cap) (c :: r)) (hn1 : 1 ≤ n) (hn : n ≤ 8192) (hk : c.toNat = 1) :
    Calls Tryz.prog 14 #[.slice (some ⟨b, off, none⟩) n cap] w fun e w' => e = .returned (.tuple #[.agg ((dec (c :: r)).1.vals (.slice none 0 0)), .int .i64 (dec (c :: r)).2]) ∧ Below w.heap.size w w' := by
  have hc : w.cell? ⟨b, off, none⟩ = some (.int .u8 1) := by
    rcases hd with ⟨h, _⟩ | ⟨b', off', cap', h, _, h3⟩
    · simp at h
    · simp at h; obtain ⟨⟨rfl, rfl⟩, _, rfl⟩ := h
      have := h3 0 (by simp)
      simp [U8, hk] at this
      exact this
  have hbz : b < w.heap.size := World.block_lt_of_cell? w _ hc
  have hn0 : 0 < n := by omega
  have hcap : n ≤ cap := hd.cap_le
  have hrl : r.length = n - 1 := by have := hd.len; simp at this; omega
  have hi1 : ¬ (8192 : Int) < (n : Int) := by omega
  have hi2 : ((n : Int) == 0) = false := by simp; omega
  have hES := fun l q => dec_call_some (c := c) (r := r) (l := l) (q := q) (by omega) hk
  have hEN := dec_call_none (c := c) (r := r) (by omega) hk
  have HE := Lib.hid (And.intro hES hEN)
  have HD := Lib.hid (And.intro (tail_addr hd) hrl)
  clear hd hrl hES hEN hk
  obtain ⟨o1, ho1⟩ : ∃ o1, (if cap = 1 then off else off + 1) = o1 := ⟨_, rfl⟩
  have HO1 := Lib.hid ho1
  rw [ho1] at HD
  clear ho1
  go_enter Tryz.func14, Tryz.ntmps14
  go_wp2_with fail
  go_cut [4, 5] from 19 to 25 (fun v4 v5 wx => v4 = .pointer (some ⟨w.heap.size + 1, 0, none⟩) ∧ v5 = .slice (some ⟨b, o1, none⟩) (n - 1) (cap - 1) ∧ At wx w.heap.size w.heap.size (.cells #[.int .i64 0, .int .i64 0, .int .i64 0, .int .i64 0, .string ByteArray.empty, .int .i64 0, .int .i64 0, .slice none 0 0] 34) ∧ At wx w.heap.size (w.heap.size + 1) (.cells (callRow []) 34) ∧ Below w.heap.size w wx ∧ wx.heap.size = w.heap.size + 2)
  case first =>
    by_cases hc1 : cap = 1
    · subst hc1
      obtain rfl : n = 1 := by omega
      clear hi2
      have : off = o1 := by simpa using HO1.out
      subst this
      go_region
      go_wp2_with fail
      go_meet
      have := two_new w (.cells #[.int .i64 0, .int .i64 0, .int .i64 0, .int .i64 0, .string ByteArray.empty, .int .i64 0, .int .i64 0, .slice none 0 0] 34) (.cells (callRow []) 34)
      exact ⟨rfl, rfl, this.2.1, this.1, this.2.2.1, this.2.2.2⟩
    · have hc2 : 1 < cap := by omega
      have : off + 1 = o1 := by have := HO1.out; rw [if_neg hc1] at this; exact this
      subst this
      go_region
      go_wp2_with fail
      go_meet
      have := two_new w (.cells #[.int .i64 0, .int .i64 0, .int .i64 0, .int .i64 0, .string ByteArray.empty, .int .i64 0, .int .i64 0, .slice none 0 0] 34) (.cells (callRow []) 34)
      exact ⟨rfl, rfl, this.2.1, this.1, this.2.2.1, this.2.2.2⟩
  case rest =>
    obtain ⟨rfl, rfl, hA, hX, hb0, hz0⟩ := hcut
    have q := row_cells hX.2
    unfold callRow at q
    have HA := Lib.hid (And.intro hA (And.intro hX hb0))
    clear hA hX hb0
    have hz1 : w.heap.size < wc.heap.size := by omega
    have hz2 : w.heap.size + 1 < wc.heap.size := by omega
    have HZ0 := Lib.hid hz0
    clear hz0
    go_wp2_with (go_at_call 24; refine (input_numbers _ _).mono ?_; rintro e w1 ⟨rfl, rfl⟩)
    refine wp_world (fun W => At W w.heap.size w.heap.size (.cells #[.int .i64 0, .int .i64 0, .int .i64 0, .int .i64 0, .string ByteArray.empty, .int .i64 0, .int .i64 0, .slice none 0 0] 34) ∧ At W w.heap.size (w.heap.size + 1) (.cells (callRow []) 34) ∧ At W w.heap.size wc.heap.size (.cells (numRow (w.heap.size + 1)) 75) ∧ Below w.heap.size w W) ?_ ?_
    · exact ⟨HA.out.1.alloc _, HA.out.2.1.alloc _, At.new' (by show _ ≤ wc.heap.size; omega) rfl _, (HA.out.2.2.drew).alloc (by show _ ≤ wc.heap.size; omega) _⟩
    intro W hW
    have hwz : w.heap.size + 1 < wc.heap.size := hz2
    clear q HZ0
    generalize wc.heap.size = Y at *
    clear HA
    go_loopw [5, 32] (fun v5 v32 wr => ∃ (k : Nat) (l : List Int) (o2 n2 cap2 : Nat) (rest : List UInt8), v32 = .int .i64 k ∧ v5 = .slice (some ⟨b, o2, none⟩) n2 cap2 ∧ l.length = k ∧ k ≤ 5 ∧ Hid (Reads wr (.slice (some ⟨b, o2, none⟩) n2 cap2) rest) ∧ n2 ≤ 8192 ∧ Hid (Prog5 (rdNums 5 r) l rest) ∧
      At wr w.heap.size w.heap.size (.cells #[.int .i64 0, .int .i64 0, .int .i64 0, .int .i64 0, .string ByteArray.empty, .int .i64 0, .int .i64 0, .slice none 0 0] 34) ∧ At wr w.heap.size (w.heap.size + 1) (.cells (callRow l) 34) ∧ At wr w.heap.size Y (.cells (numRow (w.heap.size + 1)) 75) ∧ Below w.heap.size w wr) (fun _ v _ => 6 - (intOf v).toNat)
    case atStart => exact ⟨0, [], o1, n - 1, cap - 1, r, rfl, rfl, rfl, by omega, HD.out.1.below hW.2.2.2 (Nat.le_refl _), by omega, Prog5.start r, hW.1, hW.2.1, hW.2.2.1, hW.2.2.2⟩
    case round =>
      obtain ⟨k, l, o2, n2, cap2, rest, rfl, rfl, hl, hk, hrd, hn2, hp, hA, hX, hY, hbel⟩ := hrel
      clear hW
      have hc2 := hrd.out.cap_le
      have hrl := hrd.out.len
      by_cases hk5 : k < 5
      · obtain ⟨j, v0, e1, e2, e3⟩ := call_step (w.heap.size + 1) k l hl hk5 (sigFrom 0 0 rest).1
        have c1 : wr.cell? ⟨Y, k, none⟩ = some (.pointer (some ⟨w.heap.size + 1, j, none⟩)) := by rw [row_cells hY.2]; exact e1
        have c2 : wr.cell? ⟨w.heap.size + 1, j, none⟩ = some v0 := by rw [row_cells hX.2]; exact e2
        have f2 : wr.frozen? ⟨w.heap.size + 1, j, none⟩ = false := row_free hX.2 j
        have zA := hA.lt
        have zX := hX.lt
        have q0 := row_cells hA.2
        have f0 := row_free hA.2
        have hs := sigFrom_len rest 0 0
        generalize hsv : (sigFrom 0 0 rest).2 = s at *
        generalize hxv : (sigFrom 0 0 rest).1 = x at *
        have HS := Lib.hid (And.intro hsv (And.intro hxv (And.intro e1 (And.intro e2 (And.intro e3 (And.intro hA (And.intro hX (And.intro hY hl))))))))
        have hs2 : s ≤ n2 := by omega
        have hs3 : s ≤ cap2 := by omega
        clear hsv hxv e1 e2 e3 hA hX hY hl hs
        by_cases hs0 : s = 0
        · have hb : ((s : Int) == 0) = true := by simp [hs0]
          have HN := Lib.hid (hp.out.stop (by have := HS.out.2.2.2.2.2.2.2.2; omega) (by rw [HS.out.1]; exact hs0))
          clear hs0
          go_wp2_with fail
          refine (keeper_signed _ rest _ hrd.out (by omega)).mono ?_
          rintro e w1 ⟨rfl, rfl⟩
          rw [HS.out.1, HS.out.2.1]
          go_wp2_with fail
          rw [HE.out.2 HN.out]
          have hF := row8 HS.out.2.2.2.2.2.1 rfl (.int .i64 0) (.int .i64 0) (.int .i64 0) (.int .i64 0) (.string ByteArray.empty) (.int .i64 0) (.int .i64 0) (.slice none 0 0)
          have hB := below8 hbel (.int .i64 0) (.int .i64 0) (.int .i64 0) (.int .i64 0) (.string ByteArray.empty) (.int .i64 0) (.int .i64 0) (.slice none 0 0)
          exact bodyPost_ret (results_row_tmp rfl _ _ w.heap.size _ #[.int .i64 0, .int .i64 0, .int .i64 0, .int .i64 0, .string ByteArray.empty, .int .i64 0, .int .i64 0, .slice none 0 0] (0, 0) _ rfl hF.2 Tryz.underlying34 rfl (by kernel_rfl)) rfl ⟨rfl, hB⟩
        · have hb : ((s : Int) == 0) = false := by simp; omega
          have HN := Lib.hid (hp.out.step (by have := HS.out.2.2.2.2.2.2.2.2; omega) (by rw [HS.out.1]; exact hs0))
          clear hs0
          have hRd := hrd.out.drop_at (s := s) hs2
          have HRd := Lib.hid hRd
          clear hRd
          by_cases hcs : cap2 = s
          · rw [if_pos hcs] at HRd
            subst hcs
            rw [show n2 - cap2 = 0 by omega, Nat.sub_self] at HRd
            go_wp2_with fail
            refine (keeper_signed _ rest _ hrd.out (by omega)).mono ?_
            rintro e w1 ⟨rfl, rfl⟩
            rw [HS.out.1, HS.out.2.1]
            go_wp2_with fail
            go_region
            go_wp2_with fail
            have hne : b ≠ w.heap.size + 1 := by omega
            obtain ⟨e1, e2, e3, hA, hX, hY, hl⟩ := HS.out.2.2
            have hYl := hY.1
            have hX2 := hX.setCell j (.int .i64 x)
            rw [e3] at hX2
            have hN2 := HN.out
            rw [HS.out.1, HS.out.2.1] at hN2
            refine ⟨⟨k + 1, l ++ [x], o2, _, _, rest.drop cap2, by simp, rfl, by simp [hl], by omega, HRd.out.setCell hne _ _, by omega, hN2, hA.setCell_ne (by omega) _ _ _, hX2, hY.setCell_ne (by omega) _ _ _, Below.drew (hbel.setCell (p := ⟨w.heap.size + 1, j, none⟩) (by exact Nat.le_succ _) _)⟩, by simp [intOf]; omega⟩
          · rw [if_neg hcs] at HRd
            have hcs2 : s < cap2 := by omega
            go_wp2_with fail
            refine (keeper_signed _ rest _ hrd.out (by omega)).mono ?_
            rintro e w1 ⟨rfl, rfl⟩
            rw [HS.out.1, HS.out.2.1]
            go_wp2_with fail
            go_region
            go_wp2_with fail
            have hne : b ≠ w.heap.size + 1 := by omega
            obtain ⟨e1, e2, e3, hA, hX, hY, hl⟩ := HS.out.2.2
            have hYl := hY.1
            have hX2 := hX.setCell j (.int .i64 x)
            rw [e3] at hX2
            have hN2 := HN.out
            rw [HS.out.1, HS.out.2.1] at hN2
            refine ⟨⟨k + 1, l ++ [x], (o2 + s), _, _, rest.drop s, by simp, rfl, by simp [hl], by omega, HRd.out.setCell hne _ _, by omega, hN2, hA.setCell_ne (by omega) _ _ _, hX2, hY.setCell_ne (by omega) _ _ _, Below.drew (hbel.setCell (p := ⟨w.heap.size + 1, j, none⟩) (by exact Nat.le_succ _) _)⟩, by simp [intOf]; omega⟩
      · obtain rfl : k = 5 := by omega
        have hall := hp.out.done hl
        have hconv := run_string_of hrd.out
        have HEE := Lib.hid (HE.out.1 _ _ hall)
        have q := row_cells hX.2
        have f := row_free hX.2
        have q0 := row_cells hA.2
        have f0 := row_free hA.2
        have zA := hA.lt
        have zX := hX.lt
        have HS := Lib.hid (And.intro hA (And.intro hX hl))
        unfold callRow at q
        clear hall hA hX hl hrl
        go_wp2_with fail
        refine (input_is (Inp.ofNums 1 l ⟨rest.toArray⟩) none 0 0 rfl _).mono ?_
        rintro e w1 ⟨rfl, rfl⟩
        rw [show (Inp.ofNums 1 l ⟨rest.toArray⟩).is = true from rfl]
        go_wp2_with fail
        rw [HEE.out]
        have hA2 := HS.out.1.setCell_ne (b := w.heap.size + 1) (by omega) 4 none (.string ⟨rest.toArray⟩)
        have hF := row8 hA2 rfl (.int .i64 1) (.int .i64 (l.getD 0 0)) (.int .i64 (l.getD 1 0)) (.int .i64 (l.getD 2 0)) (.string ⟨rest.toArray⟩) (.int .i64 (l.getD 3 0)) (.int .i64 (l.getD 4 0)) (.slice none 0 0)
        have hB := below8 (hbel.setCell (p := ⟨w.heap.size + 1, 4, none⟩) (by exact Nat.le_succ _) (.string ⟨rest.toArray⟩)) (.int .i64 1) (.int .i64 (l.getD 0 0)) (.int .i64 (l.getD 1 0)) (.int .i64 (l.getD 2 0)) (.string ⟨rest.toArray⟩) (.int .i64 (l.getD 3 0)) (.int .i64 (l.getD 4 0)) (.slice none 0 0)
        exact bodyPost_ret (results_row_tmp rfl _ _ w.heap.size _ #[.int .i64 1, .int .i64 (l.getD 0 0), .int .i64 (l.getD 1 0), .int .i64 (l.getD 2 0), .string ⟨rest.toArray⟩, .int .i64 (l.getD 3 0), .int .i64 (l.getD 4 0), .slice none 0 0] (0, 0) _ rfl (hF.alloc _).2 Tryz.underlying34 rfl (by kernel_rfl)) rfl ⟨rfl, hB.alloc (by simp only [size_setCell]; omega) _⟩
end Go.Proofs.YtegdpagjloidnaaGreatDoor
