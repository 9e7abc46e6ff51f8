/- keeper.Decode: what it computes, every input. -/
import Derived.Test.YtegdpagjloidnaaGreatDoorDrop
namespace Go.Proofs.YtegdpagjloidnaaGreatDoor
open Go.RowKit Go.Conc

def rdNum (bs : List UInt8) : Option (Int × List UInt8) := if (sigFrom 0 0 bs).2 = 0 then none else some ((sigFrom 0 0 bs).1, bs.drop (sigFrom 0 0 bs).2)
def rdNums : Nat → List UInt8 → Option (List Int × List UInt8)
  | 0, bs => some ([], bs)
  | n + 1, bs => match rdNum bs with
    | none => none
    | some (x, r) => match rdNums n r with
      | none => none
      | some (l, r') => some (x :: l, r')
def Inp.zero : Inp := ⟨0, 0, 0, 0, ByteArray.empty, 0, 0, []⟩
def Inp.ofNums (k : Int) (l : List Int) (name : ByteArray) : Inp := ⟨k, l.getD 0 0, l.getD 1 0, l.getD 2 0, name, l.getD 3 0, l.getD 4 0, []⟩
def Inp.ofData (k : Int) (data : List UInt8) : Inp := ⟨k, 0, 0, 0, ByteArray.empty, 0, 0, data⟩
/-- What Decode reads, the right kinds not asked yet. -/
def decRaw (bs : List UInt8) : Option Inp :=
  match bs with
  | [] => none
  | c :: r =>
    if c.toNat = 1 then (match rdNums 5 r with | none => none | some (l, r') => some (Inp.ofNums 1 l ⟨r'.toArray⟩))
    else if c.toNat = 2 ∨ c.toNat = 3 ∨ c.toNat = 4 then some (Inp.ofData c.toNat r) else none
/-- Decode: the input, and the error. -/
def dec (bs : List UInt8) : Inp × Int :=
  if bs.length > 8192 then (Inp.zero, 220) else match decRaw bs with
  | none => (Inp.zero, 220)
  | some x => if x.is then (x, 0) else (Inp.zero, 220)

theorem sigFrom_len : ∀ (bs : List UInt8) (i acc : Nat), (sigFrom i acc bs).2 ≤ i + bs.length
  | [], i, acc => by simp [sigFrom]
  | c :: r, i, acc => by
    simp only [sigFrom]
    split
    · simp
    · split
      · have := sigFrom_len r (i + 1) (acc + c.toNat % 128 * 2 ^ (7 * i)); simp only [List.length_cons]; omega
      · split
        · simp
        · simp only [List.length_cons]; omega
theorem rdNums_step (n : Nat) (bs : List UInt8) (h : (sigFrom 0 0 bs).2 ≠ 0) : rdNums (n + 1) bs = match rdNums n (bs.drop (sigFrom 0 0 bs).2) with | none => none | some (l, r') => some ((sigFrom 0 0 bs).1 :: l, r') := by
  simp [rdNums, rdNum, h]
theorem rdNums_stop (n : Nat) (bs : List UInt8) (h : (sigFrom 0 0 bs).2 = 0) : rdNums (n + 1) bs = none := by
  simp [rdNums, rdNum, h]
/-- l is read, what is left is r: five in all. -/
def Prog5 (all : Option (List Int × List UInt8)) (l : List Int) (r : List UInt8) : Prop :=
  all = match rdNums (5 - l.length) r with | none => none | some (l', r') => some (l ++ l', r')
theorem Prog5.start (r : List UInt8) : Prog5 (rdNums 5 r) [] r := by
  unfold Prog5; simp only [List.length_nil, Nat.sub_zero, List.nil_append]; cases rdNums 5 r <;> rfl
theorem Prog5.step {all : Option (List Int × List UInt8)} {l : List Int} {r : List UInt8} (h : Prog5 all l r) (hl : l.length < 5) (hs : (sigFrom 0 0 r).2 ≠ 0) : Prog5 all (l ++ [(sigFrom 0 0 r).1]) (r.drop (sigFrom 0 0 r).2) := by
  unfold Prog5 at *
  have e : 5 - l.length = (5 - (l ++ [(sigFrom 0 0 r).1]).length) + 1 := by simp; omega
  rw [h, e, rdNums_step _ _ hs]
  cases rdNums (5 - (l ++ [(sigFrom 0 0 r).1]).length) (r.drop (sigFrom 0 0 r).2) <;> simp
theorem Prog5.stop {all : Option (List Int × List UInt8)} {l : List Int} {r : List UInt8} (h : Prog5 all l r) (hl : l.length < 5) (hs : (sigFrom 0 0 r).2 = 0) : all = none := by
  unfold Prog5 at *
  have e : 5 - l.length = (5 - l.length - 1) + 1 := by omega
  rw [h, e, rdNums_stop _ _ hs]
theorem Prog5.done {all : Option (List Int × List UInt8)} {l : List Int} {r : List UInt8} (h : Prog5 all l r) (hl : l.length = 5) : all = some (l, r) := by
  unfold Prog5 at h
  rw [h, hl]; simp [rdNums]

/-- A slice of a slice that reads so. -/
theorem Reads.drop {w : World} {b off n cap : Nat} {xs : List UInt8} (h : Reads w (.slice (some ⟨b, off, none⟩) n cap) xs) (k : Nat) (hk : k ≤ n) : Reads w (.slice (some ⟨b, off + k, none⟩) (n - k) (cap - k)) (xs.drop k) := by
  rcases h with ⟨rfl, h⟩ | ⟨b', off', cap'', h, hl, hcell⟩
  · simp at h
  · simp only [Value.slice.injEq, Option.some.injEq, Addr.mk.injEq, and_true] at h
    obtain ⟨⟨rfl, rfl⟩, rfl, rfl⟩ := h
    refine Or.inr ⟨b, off + k, cap - k, by simp, by simp; omega, fun i hi => ?_⟩
    simp only [List.length_drop] at hi
    rw [Nat.add_assoc, hcell (k + i) (by omega)]
    simp [List.getD]
theorem Reads.len {w : World} {a : Option Addr} {n cap : Nat} {xs : List UInt8} (h : Reads w (.slice a n cap) xs) : xs.length = n := by
  rcases h with ⟨rfl, h⟩ | ⟨b', off', cap'', h, hl, hcell⟩
  · simp at h; simp [h.2.1]
  · simp at h; exact h.2.1.symm

def decRow (x : Inp) : Array Value := x.vals (.slice none 0 0)
theorem zero_row : (Inp.zero.vals (.slice none 0 0)) = #[.int .i64 0, .int .i64 0, .int .i64 0, .int .i64 0, .string ByteArray.empty, .int .i64 0, .int .i64 0, .slice none 0 0] := rfl

set_option maxHeartbeats 4000000 in
set_option maxRecDepth 100000 in
theorem decode_out (dv : Value) (bs : List UInt8) (w : World) (hd : Reads w dv bs) (h : bs.length = 0 ∨ 8192 < bs.length) (hb : bs.length ≤ 100000) :
    Calls Tryz.prog 14 #[dv] w fun e w' => e = .returned (.tuple #[.agg (Inp.zero.vals (.slice none 0 0)), .int .i64 220]) ∧ Below w.heap.size w w' := by
  obtain ⟨ao, n, cap, rfl, hn⟩ : ∃ ao n cap, dv = .slice ao n cap ∧ bs.length = n := by
    rcases hd with ⟨h, rfl⟩ | ⟨b, off, cap, rfl, _, _⟩
    · exact ⟨_, _, _, rfl, by rw [h]; rfl⟩
    · exact ⟨_, _, _, rfl, rfl⟩
  rw [zero_row]
  have h' : n = 0 ∨ 8192 < n := by omega
  clear h hd hn hb
  have hrow := heap_alloc_at w (.cells (Inp.zero.vals (.slice none 0 0)) 34)
  rw [zero_row] at hrow
  have HROW := Lib.hid hrow
  clear hrow
  rcases h' with rfl | h'
  · go_enter Tryz.func14, Tryz.ntmps14
    go_wp2
    exact bodyPost_ret (results_row_tmp rfl _ _ w.heap.size _ _ (0, 0) _ rfl HROW.out Tryz.underlying34 rfl (by kernel_rfl)) rfl ⟨rfl, (Below.refl _ _).alloc (Nat.le_refl _) _⟩
  · have hi : (8192 : Int) < (n : Int) := by omega
    have hz : ((n : Int) == 0) = false := by simp; omega
    go_enter Tryz.func14, Tryz.ntmps14
    go_wp2
    exact bodyPost_ret (results_row_tmp rfl _ _ w.heap.size _ _ (0, 0) _ rfl HROW.out Tryz.underlying34 rfl (by kernel_rfl)) rfl ⟨rfl, (Below.refl _ _).alloc (Nat.le_refl _) _⟩
end Go.Proofs.YtegdpagjloidnaaGreatDoor
