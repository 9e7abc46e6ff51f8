/- keeper.Decode of no kind; keeper.Decode of whatever bytes. -/
import Derived.Test.YtegdpagjloidnaaGreatDoorDecode3
namespace Go.Proofs.YtegdpagjloidnaaGreatDoor
open Go.RowKit Go.Conc

theorem dec_other {c : UInt8} {r : List UInt8} (h1 : c.toNat ≠ 1) (h2 : c.toNat ≠ 2) (h3 : c.toNat ≠ 3) (h4 : c.toNat ≠ 4) : dec (c :: r) = (Inp.zero, 220) := by
  unfold dec
  split
  · rfl
  · simp only [decRaw]
    rw [if_neg h1, if_neg (by omega)]
theorem other_is {k : Int} (h1 : k ≠ 1) (h2 : k ≠ 2) (h3 : k ≠ 3) (h4 : k ≠ 4) : (Inp.ofData k []).is = false := by
  simp [Inp.is, Inp.ofData, h1, h2, h3, h4]
theorem three_new (w : World) (A B C : Obj) : ((((w.alloc A).alloc B).drew.alloc C)).heap[w.heap.size]? = some A ∧ Below w.heap.size w (((w.alloc A).alloc B).drew.alloc C) := by
  obtain ⟨h1, h2, h3, h4⟩ := two_new w A B
  refine ⟨by rw [heap_alloc_lt _ _ (by rw [h4]; omega)]; exact h2.2, h3.alloc (by rw [h4]; omega) _⟩
theorem three_new' (w : World) (A B C : Obj) : ((((w.alloc A).alloc B).alloc C).drew).heap[w.heap.size]? = some A ∧ Below w.heap.size w (((w.alloc A).alloc B).alloc C).drew := three_new w A B C

set_option maxHeartbeats 4000000 in
set_option maxRecDepth 100000 in
theorem decode_other (b off n cap : Nat) (c : UInt8) (r : List UInt8) (w : World) (hd : Reads w (.slice (some ⟨b, off, none⟩) n cap) (c :: r)) (hn1 : 1 ≤ n) (hn : n ≤ 8192) (h1 : c.toNat ≠ 1) (h2 : c.toNat ≠ 2) (h3 : c.toNat ≠ 3) (h4 : c.toNat ≠ 4) :
    Calls Tryz.prog 14 #[.slice (some ⟨b, off, none⟩) n cap] w fun e w' => e = .returned (.tuple #[.agg (Inp.zero.vals (.slice none 0 0)), .int .i64 220]) ∧ Below w.heap.size w w' := by
  have hc : w.cell? ⟨b, off, none⟩ = some (.int .u8 c.toNat) := by
    rcases hd with ⟨h, _⟩ | ⟨b', off', cap', h, _, h3⟩
    · simp at h
    · simp at h; obtain ⟨⟨rfl, rfl⟩, _, rfl⟩ := h
      have := h3 0 (by simp)
      simpa [U8] using this
  have hbz : b < w.heap.size := World.block_lt_of_cell? w _ hc
  have hn0 : 0 < n := by omega
  have hcap : n ≤ cap := hd.cap_le
  have hi1 : ¬ (8192 : Int) < (n : Int) := by omega
  have hi2 : ((n : Int) == 0) = false := by simp; omega
  have b1 : ((c.toNat : Int) == 1) = false := by simp; omega
  have b2 : ((c.toNat : Int) == 2) = false := by simp; omega
  have b3 : ((c.toNat : Int) == 3) = false := by simp; omega
  have b4 : ((c.toNat : Int) == 4) = false := by simp; omega
  have hb256 : c.toNat < 256 := c.toNat_lt
  have HI := Lib.hid (other_is (k := (c.toNat : Int)) (by omega) (by omega) (by omega) (by omega))
  rw [zero_row]
  have HT := Lib.hid (three_new w (.cells #[.int .i64 0, .int .i64 0, .int .i64 0, .int .i64 0, .string ByteArray.empty, .int .i64 0, .int .i64 0, .slice none 0 0] 34))
  clear hd h1 h2 h3 h4
  by_cases hc1 : cap = 1
  · subst hc1
    obtain rfl : n = 1 := by omega
    clear hi2
    go_enter Tryz.func14, Tryz.ntmps14
    go_wp2_with fail
    go_region
    go_wp2_with fail
    refine (input_is (Inp.ofData (c.toNat : Int) []) none 0 0 rfl _).mono ?_
    rintro e w1 ⟨rfl, rfl⟩
    rw [HI.out]
    go_wp2_with fail
    exact bodyPost_ret (results_row_tmp rfl _ _ w.heap.size _ #[.int .i64 0, .int .i64 0, .int .i64 0, .int .i64 0, .string ByteArray.empty, .int .i64 0, .int .i64 0, .slice none 0 0] (0, 0) _ rfl (HT.out _ _).1 Tryz.underlying34 rfl (by kernel_rfl)) rfl ⟨rfl, (HT.out _ _).2⟩
  · have hc2 : 1 < cap := by omega
    go_enter Tryz.func14, Tryz.ntmps14
    go_wp2_with fail
    go_region
    go_wp2_with fail
    refine (input_is (Inp.ofData (c.toNat : Int) []) none 0 0 rfl _).mono ?_
    rintro e w1 ⟨rfl, rfl⟩
    rw [HI.out]
    go_wp2_with fail
    exact bodyPost_ret (results_row_tmp rfl _ _ w.heap.size _ #[.int .i64 0, .int .i64 0, .int .i64 0, .int .i64 0, .string ByteArray.empty, .int .i64 0, .int .i64 0, .slice none 0 0] (0, 0) _ rfl (HT.out _ _).1 Tryz.underlying34 rfl (by kernel_rfl)) rfl ⟨rfl, (HT.out _ _).2⟩

set_option maxHeartbeats 1000000 in
/-- Decode of whatever bytes. -/
theorem keeper_decode (dv : Value) (bs : List UInt8) (w : World) (hd : Reads w dv bs) (hb : bs.length ≤ 100000) :
    Calls Tryz.prog 14 #[dv] w fun e w' => ∃ v, e = .returned (.tuple #[.agg ((dec bs).1.vals v), .int .i64 (dec bs).2]) ∧ w'.ownsRow w.heap.size 5 1 v (dec bs).1.data.length (Lib.byteCells (dec bs).1.data) ∧ Below w.heap.size w w' := by
  by_cases hout : bs.length = 0 ∨ 8192 < bs.length
  · have he : dec bs = (Inp.zero, 220) := by
      unfold dec
      split
      · rfl
      · have : bs = [] := List.length_eq_zero_iff.1 (by omega)
        subst this; rfl
    rw [he]
    refine (decode_out dv bs w hd hout hb).mono ?_
    rintro e w' ⟨rfl, hw⟩
    exact ⟨_, rfl, World.ownsRow_nil _ _ _ _, hw⟩
  · rcases bs with _ | ⟨c, r⟩
    · simp at hout
    · rcases hd with ⟨h, _⟩ | ⟨b, off, cap, rfl, hcap, hcell⟩
      · simp at h
      · have hd : Reads w (.slice (some ⟨b, off, none⟩) (c :: r).length cap) (c :: r) := Or.inr ⟨b, off, cap, rfl, hcap, hcell⟩
        have hn1 : 1 ≤ (c :: r).length := by simp
        have hn2 : (c :: r).length ≤ 8192 := by omega
        by_cases h1 : c.toNat = 1
        · refine (decode_call b off _ cap c r w hd hn1 hn2 h1).mono ?_
          rintro e w' ⟨rfl, hw⟩
          have hdat : (dec (c :: r)).1.data = [] := by
            cases h : rdNums 5 r with
            | none => rw [dec_call_none (by simp at hn2; omega) h1 h]; rfl
            | some p => obtain ⟨l, q⟩ := p; rw [dec_call_some (by simp at hn2; omega) h1 h]; rfl
          rw [hdat]
          exact ⟨_, rfl, World.ownsRow_nil _ _ _ _, hw⟩
        · by_cases h234 : c.toNat = 2 ∨ c.toNat = 3 ∨ c.toNat = 4
          · exact decode_data b off _ cap c r c.toNat w hd hn1 hn2 rfl (by omega)
          · refine (decode_other b off _ cap c r w hd hn1 hn2 h1 (by omega) (by omega) (by omega)).mono ?_
            rintro e w' ⟨rfl, hw⟩
            rw [dec_other h1 (by omega) (by omega) (by omega)]
            exact ⟨_, rfl, World.ownsRow_nil _ _ _ _, hw⟩
end Go.Proofs.YtegdpagjloidnaaGreatDoor
