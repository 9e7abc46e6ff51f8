/- What Encode writes Decode reads, and the other way round: plain law. -/
import Derived.Test.YtegdpagjloidnaaGreatDoorDecode4
namespace Go.Proofs.YtegdpagjloidnaaGreatDoor
open Go.RowKit Go.Conc

theorem unzig_zig (n : Int) : Lib.unzigzag (Lib.zigzag n) = n := by
  unfold Lib.unzigzag Lib.zigzag
  split <;> split <;> omega
theorem zig_unzig (u : Nat) : Lib.zigzag (Lib.unzigzag u) = u := by
  unfold Lib.unzigzag Lib.zigzag
  split <;> split <;> omega
theorem unzig_I64 {u : Nat} (h : u < 18446744073709551616) : I64 (Lib.unzigzag u) := by
  unfold Lib.unzigzag I64
  split <;> constructor <;> omega

theorem sigFrom_put : ∀ (k y i acc : Nat) (rest : List UInt8), y ≤ k → y * 2 ^ (7 * i) < 18446744073709551616 → (0 < i → 0 < y) →
    sigFrom i acc (Lib.uvarint y ++ rest) = (Lib.unzigzag (acc + y * 2 ^ (7 * i)), i + (Lib.uvarint y).length) := by
  intro k
  induction k with
  | zero =>
    intro y i acc rest hy hb hp
    obtain rfl : y = 0 := by omega
    have hi : i = 0 := by omega
    subst hi
    rw [Lib.uvarint_small (by decide)]
    simp [sigFrom]
  | succ k ih =>
    intro y i acc rest hy hb hp
    have h9 : i = 9 → y < 2 := by
      intro h; subst h
      have e : (2 : Nat) ^ (7 * 9) = 9223372036854775808 := by decide
      rw [e] at hb; omega
    by_cases h128 : y < 128
    · have ht : (y.toUInt8).toNat = y := Lib.toUInt8_toNat (by omega)
      have hm : y % 128 = y := Nat.mod_eq_of_lt h128
      rw [Lib.uvarint_small h128]
      simp only [List.cons_append, List.nil_append, sigFrom, ht, hm]
      rw [if_neg (by rintro ⟨h1, h2⟩; have := h9 h1; have := hp (by omega); omega), if_neg (by omega), if_neg (by rintro ⟨h1, h2⟩; have := hp h1; omega)]
      simp
    · have ht : ((y % 128 + 128).toUInt8).toNat = y % 128 + 128 := Lib.toUInt8_toNat (by omega)
      have hm : (y % 128 + 128) % 128 = y % 128 := by omega
      have e2 : (2 : Nat) ^ (7 * (i + 1)) = 128 * 2 ^ (7 * i) := by
        rw [show 7 * (i + 1) = 7 + 7 * i by omega, Nat.pow_add]
      have ey : y / 128 * (128 * 2 ^ (7 * i)) + y % 128 * 2 ^ (7 * i) = y * 2 ^ (7 * i) := by
        rw [← Nat.mul_assoc, ← Nat.add_mul]
        congr 1; omega
      rw [Lib.uvarint_big (by omega)]
      simp only [List.cons_append, sigFrom, ht, hm]
      rw [if_neg (by rintro ⟨h1, h2⟩; have := h9 h1; omega), if_pos (by omega), ih (y / 128) (i + 1) _ rest (by omega) (by rw [e2]; omega) (by intro _; omega), e2]
      simp only [List.length_cons]
      refine Prod.ext ?_ ?_
      · show Lib.unzigzag _ = Lib.unzigzag _
        congr 1; omega
      · show _ + _ = _ + _
        omega

theorem rdNum_put (n : Int) (h : I64 n) (rest : List UInt8) : rdNum (putNum n ++ rest) = some (n, rest) := by
  have hz := Lib.zigzag_lt h.1 h.2
  have e := sigFrom_put _ (Lib.zigzag n) 0 0 rest (Nat.le_refl _) (by simpa using hz) (by omega)
  have hp := Lib.uvarint_pos (Lib.zigzag n)
  unfold rdNum putNum
  rw [e]
  simp only [Nat.zero_add, Nat.mul_zero, Nat.pow_zero, Nat.mul_one, unzig_zig]
  rw [if_neg (by omega), List.drop_left]

theorem sigFrom_back : ∀ (bs : List UInt8) (i acc : Nat), i ≤ 9 → acc < 2 ^ (7 * i) → (sigFrom i acc bs).2 ≠ 0 →
    ∃ y, bs = Lib.uvarint y ++ bs.drop ((sigFrom i acc bs).2 - i) ∧ (sigFrom i acc bs).2 = i + (Lib.uvarint y).length ∧ (sigFrom i acc bs).1 = Lib.unzigzag (acc + y * 2 ^ (7 * i)) ∧ (0 < i → 0 < y) ∧ y * 2 ^ (7 * i) + acc < 18446744073709551616
  | [], i, acc, hi, ha, hm => by simp [sigFrom] at hm
  | c :: r, i, acc, hi, ha, hm => by
    have hc : c.toNat < 256 := c.toNat_lt
    simp only [sigFrom] at hm ⊢
    by_cases h1 : i = 9 ∧ c.toNat ≠ 1
    · rw [if_pos h1] at hm; simp at hm
    · rw [if_neg h1] at hm ⊢
      by_cases h2 : 128 ≤ c.toNat
      · rw [if_pos h2] at hm ⊢
        have hi8 : i ≤ 8 := by
          rcases Nat.lt_or_ge i 9 with h | h
          · omega
          · exact absurd ⟨by omega, by omega⟩ h1
        have e2 : (2 : Nat) ^ (7 * (i + 1)) = 128 * 2 ^ (7 * i) := by
          rw [show 7 * (i + 1) = 7 + 7 * i by omega, Nat.pow_add]
        have hc1 : c.toNat % 128 * 2 ^ (7 * i) ≤ 127 * 2 ^ (7 * i) := Nat.mul_le_mul_right _ (by omega)
        obtain ⟨y', g1, g2, g3, g4, g5⟩ := sigFrom_back r (i + 1) (acc + c.toNat % 128 * 2 ^ (7 * i)) (by omega) (by rw [e2]; omega) hm
        have hy' := g4 (by omega)
        have hu : Lib.uvarint (y' * 128 + c.toNat % 128) = c :: Lib.uvarint y' := by
          rw [Lib.uvarint_big (by omega)]
          congr 1
          · apply UInt8.toNat_inj.1
            rw [Lib.toUInt8_toNat (by omega)]; omega
          · congr 1; omega
        have ey : (y' * 128 + c.toNat % 128) * 2 ^ (7 * i) = y' * (128 * 2 ^ (7 * i)) + c.toNat % 128 * 2 ^ (7 * i) := by
          rw [Nat.add_mul, Nat.mul_assoc]
        rw [e2] at g3 g5
        refine ⟨y' * 128 + c.toNat % 128, ?_, ?_, ?_, fun _ => by omega, ?_⟩
        · rw [hu]
          have hd : (sigFrom (i + 1) (acc + c.toNat % 128 * 2 ^ (7 * i)) r).2 - i = ((sigFrom (i + 1) (acc + c.toNat % 128 * 2 ^ (7 * i)) r).2 - (i + 1)) + 1 := by omega
          rw [hd, List.drop_succ_cons, List.cons_append, ← g1]
        · rw [g2, hu, List.length_cons]; omega
        · rw [g3, ey]; congr 1; omega
        · rw [ey]; omega
      · rw [if_neg h2] at hm ⊢
        by_cases h3 : 0 < i ∧ c.toNat = 0
        · rw [if_pos h3] at hm; simp at hm
        · rw [if_neg h3] at hm ⊢
          have hm' : c.toNat % 128 = c.toNat := Nat.mod_eq_of_lt (by omega)
          have hu : Lib.uvarint c.toNat = [c] := by
            rw [Lib.uvarint_small (by omega)]
            congr 1
            apply UInt8.toNat_inj.1
            rw [Lib.toUInt8_toNat (by omega)]
          refine ⟨c.toNat, ?_, by rw [hu]; rfl, by rw [hm'], fun h => by omega, ?_⟩
          · rw [hu]
            show c :: r = [c] ++ (c :: r).drop (i + 1 - i)
            rw [show i + 1 - i = 1 by omega]; rfl
          · have hcases : i = 0 ∨ i = 1 ∨ i = 2 ∨ i = 3 ∨ i = 4 ∨ i = 5 ∨ i = 6 ∨ i = 7 ∨ i = 8 ∨ i = 9 := by omega
            rcases hcases with rfl | rfl | rfl | rfl | rfl | rfl | rfl | rfl | rfl | rfl <;> simp only [Nat.reduceMul, Nat.reducePow] at ha ⊢ <;> omega

theorem rdNum_back {bs r : List UInt8} {n : Int} (h : rdNum bs = some (n, r)) : bs = putNum n ++ r ∧ I64 n := by
  unfold rdNum at h
  split at h
  · simp at h
  · rename_i hm
    simp only [Option.some.injEq, Prod.mk.injEq] at h
    obtain ⟨h1, h2⟩ := h
    obtain ⟨y, g1, g2, g3, _, g5⟩ := sigFrom_back bs 0 0 (by omega) (by simp) hm
    simp only [Nat.mul_zero, Nat.pow_zero, Nat.mul_one, Nat.zero_add, Nat.add_zero, Nat.sub_zero] at g1 g2 g3 g5
    subst h1 h2
    refine ⟨?_, by rw [g3]; exact unzig_I64 g5⟩
    unfold putNum
    rw [g3, zig_unzig]; exact g1
theorem rdNums_back : ∀ (n : Nat) (bs r : List UInt8) (l : List Int), rdNums n bs = some (l, r) → l.length = n ∧ bs = (l.map putNum).flatten ++ r ∧ ∀ x ∈ l, I64 x
  | 0, bs, r, l, h => by
    simp only [rdNums, Option.some.injEq, Prod.mk.injEq] at h
    obtain ⟨rfl, rfl⟩ := h
    simp
  | n + 1, bs, r, l, h => by
    unfold rdNums at h
    cases h1 : rdNum bs with
    | none => rw [h1] at h; simp at h
    | some p =>
      obtain ⟨x, q⟩ := p
      rw [h1] at h
      cases h2 : rdNums n q with
      | none => simp only [h2] at h; simp at h
      | some p2 =>
        obtain ⟨l', r'⟩ := p2
        simp only [h2, Option.some.injEq, Prod.mk.injEq] at h
        obtain ⟨rfl, rfl⟩ := h
        obtain ⟨g1, g2⟩ := rdNum_back h1
        obtain ⟨g3, g4, g5⟩ := rdNums_back n q r' l' h2
        refine ⟨by simp [g3], ?_, ?_⟩
        · rw [g1, g4]; simp
        · intro z hz
          rcases List.mem_cons.1 hz with rfl | hz
          · exact g2
          · exact g5 z hz

theorem name_nil {s : ByteArray} (h : s.toList.isEmpty = true) : s = ByteArray.empty := by
  rw [ByteArray.toList_eq] at h
  obtain ⟨⟨l⟩⟩ := s
  simp at h
  subst h; rfl

theorem enc_err (x : Inp) (h : x.enc.2 ≠ 0) : x.enc.1 = [] := by
  revert h; unfold Inp.enc; split
  · simp
  · split
    · simp
    · split <;> simp
theorem dec_err (bs : List UInt8) (h : (dec bs).2 ≠ 0) : dec bs = (Inp.zero, 220) := by
  revert h; unfold dec; split
  · simp
  · split
    · simp
    · split <;> simp
theorem enc_ok {x : Inp} (h : x.enc.2 = 0) : x.is = true ∧ x.bytes.length ≤ 8192 ∧ x.enc.1 = x.bytes := by
  revert h; unfold Inp.enc; split
  · simp
  · split
    · simp
    · split
      · simp
      · rename_i h1 _ h3
        intro _
        exact ⟨by simpa using h1, by omega, rfl⟩
theorem dec_raw (x : Inp) (i1 : I64 x.ses) (i2 : I64 x.id) (i3 : I64 x.ok) (i4 : I64 x.a) (i5 : I64 x.b) (h : x.is = true) : decRaw x.bytes = some x := by
  obtain ⟨kind, ses, id, ok, name, a, b, data⟩ := x
  unfold Inp.is at h
  simp only at h i1 i2 i3 i4 i5
  by_cases h1 : kind = 1
  · subst h1
    simp only [if_true] at h
    have hd : data = [] := List.length_eq_zero_iff.1 (by simpa using h)
    subst hd
    have hr : rdNums 5 (putNum ses ++ (putNum id ++ (putNum ok ++ (putNum a ++ (putNum b ++ name.data.toList))))) = some ([ses, id, ok, a, b], name.data.toList) := by
      simp only [rdNums, rdNum_put _ i1, rdNum_put _ i2, rdNum_put _ i3, rdNum_put _ i4, rdNum_put _ i5]
    have hb : Inp.bytes ⟨1, ses, id, ok, name, a, b, []⟩ = 1 :: (putNum ses ++ (putNum id ++ (putNum ok ++ (putNum a ++ (putNum b ++ name.data.toList))))) := by
      simp [Inp.bytes, Inp.head, Inp.nums]
    rw [hb]
    simp only [decRaw]
    rw [if_pos (by decide), hr]
    simp [Inp.ofNums]
  · rw [if_neg h1] at h
    have hbl : Inp.blank ⟨kind, ses, id, ok, name, a, b, data⟩ = true ∧ (kind = 2 ∨ kind = 3 ∨ kind = 4) := by
      split at h
      · rename_i h2; exact ⟨h, by omega⟩
      · split at h
        · rename_i h4; simp at h; exact ⟨h.1, Or.inr (Or.inr h4)⟩
        · simp at h
    obtain ⟨hbl, hk⟩ := hbl
    simp only [Inp.blank, Bool.and_eq_true, beq_iff_eq] at hbl
    obtain ⟨⟨⟨⟨⟨rfl, rfl⟩, rfl⟩, hn⟩, rfl⟩, rfl⟩ := hbl
    have hn' := name_nil hn
    subst hn'
    have hb : Inp.bytes ⟨kind, 0, 0, 0, ByteArray.empty, 0, 0, data⟩ = UInt8.ofNat (kind % 256).toNat :: data := by
      simp [Inp.bytes, Inp.head, h1]
    rw [hb]
    rcases hk with rfl | rfl | rfl <;> rfl
theorem dec_enc (x : Inp) (i1 : I64 x.ses) (i2 : I64 x.id) (i3 : I64 x.ok) (i4 : I64 x.a) (i5 : I64 x.b) (h : x.enc.2 = 0) : dec x.enc.1 = (x, 0) ∧ 1 ≤ x.enc.1.length ∧ x.enc.1.length ≤ 8192 := by
  obtain ⟨h1, h2, h3⟩ := enc_ok h
  rw [h3]
  have := x.head_pos
  refine ⟨?_, by simp [Inp.bytes]; omega, h2⟩
  unfold dec
  rw [if_neg (by omega), dec_raw x i1 i2 i3 i4 i5 h1]
  simp [h1]
theorem dec_ok {bs : List UInt8} (h : (dec bs).2 = 0) : bs.length ≤ 8192 ∧ decRaw bs = some (dec bs).1 ∧ (dec bs).1.is = true := by
  revert h
  unfold dec
  split
  · simp
  · rename_i h1
    split
    · simp
    · rename_i x hx
      split
      · rename_i h3; intro _; exact ⟨by omega, hx, h3⟩
      · simp
theorem raw_back {bs : List UInt8} {x : Inp} (h : decRaw bs = some x) : x.bytes = bs ∧ x.data.length ≤ bs.length ∧ x.name.size ≤ bs.length ∧ I64 x.ses ∧ I64 x.id ∧ I64 x.ok ∧ I64 x.a ∧ I64 x.b := by
  have z : I64 0 := by unfold I64; omega
  rcases bs with _ | ⟨c, r⟩
  · simp [decRaw] at h
  · simp only [decRaw] at h
    by_cases h1 : c.toNat = 1
    · rw [if_pos h1] at h
      obtain rfl : c = 1 := UInt8.toNat_inj.1 h1
      cases h2 : rdNums 5 r with
      | none => simp [h2] at h
      | some p =>
        obtain ⟨l, r'⟩ := p
        simp only [h2, Option.some.injEq] at h
        subst h
        obtain ⟨g1, g2, g3⟩ := rdNums_back 5 r r' l h2
        match l, g1 with
        | [n1, n2, n3, n4, n5], _ =>
          simp only [List.map_cons, List.map_nil, List.flatten_cons, List.flatten_nil, List.append_nil] at g2
          refine ⟨?_, by simp [Inp.ofNums], ?_, g3 _ (by simp [Inp.ofNums]), g3 _ (by simp [Inp.ofNums]), g3 _ (by simp [Inp.ofNums]), g3 _ (by simp [Inp.ofNums]), g3 _ (by simp [Inp.ofNums])⟩
          · rw [g2]; simp [Inp.ofNums, Inp.bytes, Inp.head, Inp.nums]
          · rw [g2]; show r'.toArray.size ≤ _; simp; omega
    · rw [if_neg h1] at h
      split at h
      · rename_i h2
        simp only [Option.some.injEq] at h
        subst h
        refine ⟨?_, by simp [Inp.ofData], by simp [Inp.ofData], z, z, z, z, z⟩
        have hk : ¬ ((c.toNat : Int) = 1) := by omega
        have hc : UInt8.ofNat ((c.toNat : Int) % 256).toNat = c := by
          apply UInt8.toNat_inj.1
          have := c.toNat_lt
          simp; omega
        simp [Inp.ofData, Inp.bytes, Inp.head, hk, hc]
      · simp at h
theorem enc_dec (bs : List UInt8) (h : (dec bs).2 = 0) : (dec bs).1.enc = (bs, 0) ∧ I64 (dec bs).1.ses ∧ I64 (dec bs).1.id ∧ I64 (dec bs).1.ok ∧ I64 (dec bs).1.a ∧ I64 (dec bs).1.b := by
  obtain ⟨h1, h2, h3⟩ := dec_ok h
  obtain ⟨g1, g2, g3, gi⟩ := raw_back h2
  refine ⟨?_, gi⟩
  have hl : (dec bs).1.data.length + (dec bs).1.name.size ≤ (dec bs).1.bytes.length := by
    simp only [Inp.bytes, List.length_append, Array.length_toList]
    show _ + (dec bs).1.name.data.size ≤ _
    omega
  rw [g1] at hl
  unfold Inp.enc
  rw [if_neg (by simp [h3]), if_neg (by omega), g1, if_neg (by omega)]
theorem dec_bound (bs : List UInt8) : (dec bs).1.data.length ≤ 65536 ∧ (dec bs).1.name.size ≤ 65536 := by
  by_cases h : (dec bs).2 = 0
  · obtain ⟨h1, h2, h3⟩ := dec_ok h
    obtain ⟨g1, g2, g3, gi⟩ := raw_back h2
    omega
  · rw [dec_err bs h]
    exact ⟨by decide, by decide⟩
end Go.Proofs.YtegdpagjloidnaaGreatDoor
