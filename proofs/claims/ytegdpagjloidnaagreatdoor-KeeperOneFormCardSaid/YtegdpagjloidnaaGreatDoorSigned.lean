/- A signed number read: keeper.signed. -/
import Derived.Test.YtegdpagjloidnaaGreatDoorEncode2
import Derived.Lib.VarintDec
import Derived.Lib.VarintBits
import Derived.Lib.Zigzag
namespace Go.Proofs.YtegdpagjloidnaaGreatDoor
open Go.RowKit Go.Conc

/-- i bytes are read; acc is what they spell. -/
def sigFrom (i acc : Nat) : List UInt8 → Int × Nat
  | [] => (0, 0)
  | c :: r =>
    if i = 9 ∧ c.toNat ≠ 1 then (0, 0)
    else if 128 ≤ c.toNat then sigFrom (i + 1) (acc + c.toNat % 128 * 2 ^ (7 * i)) r
    else if 0 < i ∧ c.toNat = 0 then (0, 0)
    else (Lib.unzigzag (acc + c.toNat % 128 * 2 ^ (7 * i)), i + 1)

theorem or_step0 (acc c : Nat) (hacc : acc < 1) (hc : c < 256) :
    bits .or .u64 (acc : Int) (IntKind.u64.wrap (IntKind.u64.wrap (bits .and .u8 (c : Int) 127) * 1)) = ((acc + c % 128 * 1 : Nat) : Int) := by
  simp (disch := omega) only [u8_and127, u64_wrap_id, u64_orv0]
  omega
theorem or_step1 (acc c : Nat) (hacc : acc < 128) (hc : c < 256) :
    bits .or .u64 (acc : Int) (IntKind.u64.wrap (IntKind.u64.wrap (bits .and .u8 (c : Int) 127) * 128)) = ((acc + c % 128 * 128 : Nat) : Int) := by
  simp (disch := omega) only [u8_and127, u64_wrap_id, u64_orv7]
  omega
theorem or_step2 (acc c : Nat) (hacc : acc < 16384) (hc : c < 256) :
    bits .or .u64 (acc : Int) (IntKind.u64.wrap (IntKind.u64.wrap (bits .and .u8 (c : Int) 127) * 16384)) = ((acc + c % 128 * 16384 : Nat) : Int) := by
  simp (disch := omega) only [u8_and127, u64_wrap_id, u64_orv14]
  omega
theorem or_step3 (acc c : Nat) (hacc : acc < 2097152) (hc : c < 256) :
    bits .or .u64 (acc : Int) (IntKind.u64.wrap (IntKind.u64.wrap (bits .and .u8 (c : Int) 127) * 2097152)) = ((acc + c % 128 * 2097152 : Nat) : Int) := by
  simp (disch := omega) only [u8_and127, u64_wrap_id, u64_orv21]
  omega
theorem or_step4 (acc c : Nat) (hacc : acc < 268435456) (hc : c < 256) :
    bits .or .u64 (acc : Int) (IntKind.u64.wrap (IntKind.u64.wrap (bits .and .u8 (c : Int) 127) * 268435456)) = ((acc + c % 128 * 268435456 : Nat) : Int) := by
  simp (disch := omega) only [u8_and127, u64_wrap_id, u64_orv28]
  omega
theorem or_step5 (acc c : Nat) (hacc : acc < 34359738368) (hc : c < 256) :
    bits .or .u64 (acc : Int) (IntKind.u64.wrap (IntKind.u64.wrap (bits .and .u8 (c : Int) 127) * 34359738368)) = ((acc + c % 128 * 34359738368 : Nat) : Int) := by
  simp (disch := omega) only [u8_and127, u64_wrap_id, u64_orv35]
  omega
theorem or_step6 (acc c : Nat) (hacc : acc < 4398046511104) (hc : c < 256) :
    bits .or .u64 (acc : Int) (IntKind.u64.wrap (IntKind.u64.wrap (bits .and .u8 (c : Int) 127) * 4398046511104)) = ((acc + c % 128 * 4398046511104 : Nat) : Int) := by
  simp (disch := omega) only [u8_and127, u64_wrap_id, u64_orv42]
  omega
theorem or_step7 (acc c : Nat) (hacc : acc < 562949953421312) (hc : c < 256) :
    bits .or .u64 (acc : Int) (IntKind.u64.wrap (IntKind.u64.wrap (bits .and .u8 (c : Int) 127) * 562949953421312)) = ((acc + c % 128 * 562949953421312 : Nat) : Int) := by
  simp (disch := omega) only [u8_and127, u64_wrap_id, u64_orv49]
  omega
theorem or_step8 (acc c : Nat) (hacc : acc < 72057594037927936) (hc : c < 256) :
    bits .or .u64 (acc : Int) (IntKind.u64.wrap (IntKind.u64.wrap (bits .and .u8 (c : Int) 127) * 72057594037927936)) = ((acc + c % 128 * 72057594037927936 : Nat) : Int) := by
  simp (disch := omega) only [u8_and127, u64_wrap_id, u64_orv56]
  omega
theorem or_step9 (acc c : Nat) (hacc : acc < 9223372036854775808) (hc : c < 2) :
    bits .or .u64 (acc : Int) (IntKind.u64.wrap (IntKind.u64.wrap (bits .and .u8 (c : Int) 127) * 9223372036854775808)) = ((acc + c % 128 * 9223372036854775808 : Nat) : Int) := by
  simp (disch := omega) only [u8_and127, u64_wrap_id, u64_orv63]
  omega
set_option maxHeartbeats 1000000 in
theorem or_step (k acc c : Nat) (hk : k ≤ 9) (hacc : acc < 2 ^ (7 * k)) (hc : c < 256) (h9 : k = 9 → c = 1) :
    bits .or .u64 (acc : Int) (IntKind.u64.wrap (IntKind.u64.wrap (bits .and .u8 (c : Int) 127) * 2 ^ (7 * k))) = ((acc + c % 128 * 2 ^ (7 * k) : Nat) : Int) ∧ acc + c % 128 * 2 ^ (7 * k) < 18446744073709551616 ∧ (k < 9 → acc + c % 128 * 2 ^ (7 * k) < 2 ^ (7 * (k + 1))) := by
  have hks : k = 0 ∨ k = 1 ∨ k = 2 ∨ k = 3 ∨ k = 4 ∨ k = 5 ∨ k = 6 ∨ k = 7 ∨ k = 8 ∨ k = 9 := by omega
  rcases hks with rfl | rfl | rfl | rfl | rfl | rfl | rfl | rfl | rfl | rfl
  · have e1 : (2 : Int) ^ (7 * 0) = 1 := by simp
    have e2 : (2 : Nat) ^ (7 * 0) = 1 := by simp
    have e3 : (2 : Nat) ^ (7 * (0 + 1)) = 128 := by simp
    rw [e2] at hacc
    rw [e1, e2, e3]
    have hc' : c < 256 := by omega
    exact ⟨or_step0 acc c hacc hc', by omega, fun _ => by omega⟩
  · have e1 : (2 : Int) ^ (7 * 1) = 128 := by simp
    have e2 : (2 : Nat) ^ (7 * 1) = 128 := by simp
    have e3 : (2 : Nat) ^ (7 * (1 + 1)) = 16384 := by simp
    rw [e2] at hacc
    rw [e1, e2, e3]
    have hc' : c < 256 := by omega
    exact ⟨or_step1 acc c hacc hc', by omega, fun _ => by omega⟩
  · have e1 : (2 : Int) ^ (7 * 2) = 16384 := by simp
    have e2 : (2 : Nat) ^ (7 * 2) = 16384 := by simp
    have e3 : (2 : Nat) ^ (7 * (2 + 1)) = 2097152 := by simp
    rw [e2] at hacc
    rw [e1, e2, e3]
    have hc' : c < 256 := by omega
    exact ⟨or_step2 acc c hacc hc', by omega, fun _ => by omega⟩
  · have e1 : (2 : Int) ^ (7 * 3) = 2097152 := by simp
    have e2 : (2 : Nat) ^ (7 * 3) = 2097152 := by simp
    have e3 : (2 : Nat) ^ (7 * (3 + 1)) = 268435456 := by simp
    rw [e2] at hacc
    rw [e1, e2, e3]
    have hc' : c < 256 := by omega
    exact ⟨or_step3 acc c hacc hc', by omega, fun _ => by omega⟩
  · have e1 : (2 : Int) ^ (7 * 4) = 268435456 := by simp
    have e2 : (2 : Nat) ^ (7 * 4) = 268435456 := by simp
    have e3 : (2 : Nat) ^ (7 * (4 + 1)) = 34359738368 := by simp
    rw [e2] at hacc
    rw [e1, e2, e3]
    have hc' : c < 256 := by omega
    exact ⟨or_step4 acc c hacc hc', by omega, fun _ => by omega⟩
  · have e1 : (2 : Int) ^ (7 * 5) = 34359738368 := by simp
    have e2 : (2 : Nat) ^ (7 * 5) = 34359738368 := by simp
    have e3 : (2 : Nat) ^ (7 * (5 + 1)) = 4398046511104 := by simp
    rw [e2] at hacc
    rw [e1, e2, e3]
    have hc' : c < 256 := by omega
    exact ⟨or_step5 acc c hacc hc', by omega, fun _ => by omega⟩
  · have e1 : (2 : Int) ^ (7 * 6) = 4398046511104 := by simp
    have e2 : (2 : Nat) ^ (7 * 6) = 4398046511104 := by simp
    have e3 : (2 : Nat) ^ (7 * (6 + 1)) = 562949953421312 := by simp
    rw [e2] at hacc
    rw [e1, e2, e3]
    have hc' : c < 256 := by omega
    exact ⟨or_step6 acc c hacc hc', by omega, fun _ => by omega⟩
  · have e1 : (2 : Int) ^ (7 * 7) = 562949953421312 := by simp
    have e2 : (2 : Nat) ^ (7 * 7) = 562949953421312 := by simp
    have e3 : (2 : Nat) ^ (7 * (7 + 1)) = 72057594037927936 := by simp
    rw [e2] at hacc
    rw [e1, e2, e3]
    have hc' : c < 256 := by omega
    exact ⟨or_step7 acc c hacc hc', by omega, fun _ => by omega⟩
  · have e1 : (2 : Int) ^ (7 * 8) = 72057594037927936 := by simp
    have e2 : (2 : Nat) ^ (7 * 8) = 72057594037927936 := by simp
    have e3 : (2 : Nat) ^ (7 * (8 + 1)) = 9223372036854775808 := by simp
    rw [e2] at hacc
    rw [e1, e2, e3]
    have hc' : c < 256 := by omega
    exact ⟨or_step8 acc c hacc hc', by omega, fun _ => by omega⟩
  · have e1 : (2 : Int) ^ (7 * 9) = 9223372036854775808 := by simp
    have e2 : (2 : Nat) ^ (7 * 9) = 9223372036854775808 := by simp
    have e3 : (2 : Nat) ^ (7 * (9 + 1)) = 1180591620717411303424 := by simp
    rw [e2] at hacc
    rw [e1, e2, e3]
    have hc' : c < 2 := by omega
    exact ⟨or_step9 acc c hacc hc', by omega, fun _ => by omega⟩

set_option maxHeartbeats 8000000 in
set_option maxRecDepth 100000 in
theorem keeper_signed (dv : Value) (bs : List UInt8) (w : World) (hd : Reads w dv bs) (hl : bs.length ≤ 100000) :
    Calls Tryz.prog 29 #[dv] w fun e w' => e = .returned (.tuple #[.int .i64 (sigFrom 0 0 bs).1, .int .i64 (sigFrom 0 0 bs).2]) ∧ w = w' := by
  rcases hd with ⟨rfl, rfl⟩ | ⟨b, off, cap, rfl, hcap, hcell⟩
  · go_enter Tryz.func29, Tryz.ntmps29
    go_wp2
    refine wp_loop_rounds 1 ?_; rw [rounds_succ]
    go_wp2
    go_ret2
    exact ⟨rfl, rfl⟩
  · have HC := Lib.hid hcell
    clear hcell
    go_enter Tryz.func29, Tryz.ntmps29
    go_wp2
    go_loop [4, 10] (fun vs vi => ∃ k acc : Nat, vi = .int .i64 k ∧ vs = .int .u64 acc ∧ k ≤ 9 ∧ k ≤ bs.length ∧ acc < 2 ^ (7 * k) ∧ Hid (sigFrom 0 0 bs = sigFrom k acc (bs.drop k))) (fun _ vi => bs.length - (intOf vi).toNat)
    case atStart => exact ⟨0, 0, rfl, rfl, by omega, by omega, by decide, rfl⟩
    case round =>
      obtain ⟨k, acc, rfl, rfl, hk9, hkn, hacc, hdec⟩ := hrel
      by_cases hk : k < bs.length
      · have hc := HC.out k hk
        have hdrop : bs.drop k = bs[k]'hk :: bs.drop (k + 1) := List.drop_eq_getElem_cons hk
        have hdec2 := hdec.out
        rw [hdrop] at hdec2
        have hget : bs.getD k 0 = bs[k]'hk := by simp [List.getD, hk]
        rw [hget, U8] at hc
        generalize bs[k]'hk = c at hc hdec2
        have hb256 : c.toNat < 256 := c.toNat_lt
        have HD2 := Lib.hid hdec2
        clear hdrop hdec2 hdec hget
        have hci : 0 ≤ (c.toNat : Int) ∧ (c.toNat : Int) < 256 := by omega
        by_cases hf : k = 9 ∧ c.toNat ≠ 1
        · have he : sigFrom 0 0 bs = (0, 0) := by rw [HD2.out]; simp only [sigFrom]; rw [if_pos hf]
          have HE := Lib.hid he
          have b1 : ((k : Int) == 9) = true := by simp; omega
          have b2 : ((c.toNat : Int) != 1) = true := by simp; omega
          clear he hf
          go_wp2
          go_ret2
          rw [HE.out]
          exact ⟨rfl, rfl⟩
        · have h9 : k = 9 → c.toNat = 1 := by intro h; by_cases hc1 : c.toNat = 1; exact hc1; exact absurd ⟨h, hc1⟩ hf
          obtain ⟨hv, hu, hu9⟩ := or_step k acc c.toNat hk9 hacc hb256 h9
          have hs : sigFrom 0 0 bs = if 128 ≤ c.toNat then sigFrom (k + 1) (acc + c.toNat % 128 * 2 ^ (7 * k)) (bs.drop (k + 1)) else if 0 < k ∧ c.toNat = 0 then (0, 0) else (Lib.unzigzag (acc + c.toNat % 128 * 2 ^ (7 * k)), k + 1) := by
            rw [HD2.out]; simp only [sigFrom]; rw [if_neg hf]
          generalize acc + c.toNat % 128 * 2 ^ (7 * k) = u at hv hu hu9 hs
          have H9 := Lib.hid (And.intro h9 (And.intro hf hacc))
          have HS := Lib.hid hs
          have HU := Lib.hid hu9
          clear h9 hf hacc hs hu9
          by_cases hge : 128 ≤ c.toNat
          · have hk8 : k < 9 := by have := H9.out.1; omega
            have b1 : ((k : Int) == 9) = false := by simp; omega
            have hge' : (128 : Int) ≤ (c.toNat : Int) := by omega
            go_wp2
            refine ⟨⟨k + 1, u, by simp, rfl, by omega, by omega, HU.out hk8, ?_⟩, by simp [intOf]; omega⟩
            show _ = _
            rw [HS.out, if_pos hge]
          · have hge' : ¬ (128 : Int) ≤ (c.toNat : Int) := by omega
            have hu0 : 0 ≤ (u : Int) := by omega
            by_cases hz : 0 < k ∧ c.toNat = 0
            · have he : sigFrom 0 0 bs = (0, 0) := by rw [HS.out, if_neg hge, if_pos hz]
              have HE := Lib.hid he
              have hk0 : 0 < (k : Int) := by omega
              have b1 : ((k : Int) == 9) = false := by have := H9.out.1; simp; omega
              have b3 : ((c.toNat : Int) == 0) = true := by simp; omega
              clear he hz
              go_wp2
              go_ret2
              rw [HE.out]
              exact ⟨rfl, rfl⟩
            · have he : sigFrom 0 0 bs = (Lib.unzigzag u, k + 1) := by rw [HS.out, if_neg hge, if_neg hz]
              have HE := Lib.hid he
              have HZ := Lib.hid hz
              have ha := Lib.u64_and1 (u : Int) hu0 (by omega)
              have hw : wrap64 ((u : Int) / 2) = ((u / 2 : Nat) : Int) := by unfold wrap64; omega
              have hx := Lib.i64_not (u / 2) (by omega)
              have hu2 : u % 2 = 0 ∨ u % 2 = 1 := by omega
              clear he hz
              by_cases hk9' : k = 9
              · have b1 : ((k : Int) == 9) = true := by simp; omega
                have b2 : ((c.toNat : Int) != 1) = false := by have := H9.out.1 hk9'; simp; omega
                have b3 : ((c.toNat : Int) == 0) = false := by have := H9.out.1 hk9'; simp; omega
                have hk0 : 0 < (k : Int) := by omega
                clear hk9'
                rcases hu2 with hp | hp
                · have b5 : ((u : Int) % 2 == 1) = false := by simp; omega
                  have hz2 : Lib.unzigzag u = ((u / 2 : Nat) : Int) := by unfold Lib.unzigzag; rw [if_pos hp]
                  have HZ2 := Lib.hid hz2
                  clear hp hz2
                  go_wp2
                  go_ret2
                  rw [HE.out, HZ2.out]
                  exact ⟨by simp, rfl⟩
                · have b5 : ((u : Int) % 2 == 1) = true := by simp; omega
                  have hz2 : Lib.unzigzag u = -((u / 2 : Nat) : Int) - 1 := by unfold Lib.unzigzag; rw [if_neg (by omega)]
                  have HZ2 := Lib.hid hz2
                  clear hp hz2
                  go_wp2
                  go_ret2
                  rw [HE.out, HZ2.out]
                  exact ⟨by have hx' := hx; simp at hx' ⊢; exact hx', rfl⟩
              · have b1 : ((k : Int) == 9) = false := by simp; omega
                clear hk9'
                by_cases hk0 : 0 < k
                · have hk0' : 0 < (k : Int) := by omega
                  have b3 : ((c.toNat : Int) == 0) = false := by have := HZ.out; simp; omega
                  rcases hu2 with hp | hp
                  · have b5 : ((u : Int) % 2 == 1) = false := by simp; omega
                    have hz2 : Lib.unzigzag u = ((u / 2 : Nat) : Int) := by unfold Lib.unzigzag; rw [if_pos hp]
                    have HZ2 := Lib.hid hz2
                    clear hp hz2
                    go_wp2
                    go_ret2
                    rw [HE.out, HZ2.out]
                    exact ⟨by simp, rfl⟩
                  · have b5 : ((u : Int) % 2 == 1) = true := by simp; omega
                    have hz2 : Lib.unzigzag u = -((u / 2 : Nat) : Int) - 1 := by unfold Lib.unzigzag; rw [if_neg (by omega)]
                    have HZ2 := Lib.hid hz2
                    clear hp hz2
                    go_wp2
                    go_ret2
                    rw [HE.out, HZ2.out]
                    exact ⟨by have hx' := hx; simp at hx' ⊢; exact hx', rfl⟩
                · have hk0' : ¬ 0 < (k : Int) := by omega
                  rcases hu2 with hp | hp
                  · have b5 : ((u : Int) % 2 == 1) = false := by simp; omega
                    have hz2 : Lib.unzigzag u = ((u / 2 : Nat) : Int) := by unfold Lib.unzigzag; rw [if_pos hp]
                    have HZ2 := Lib.hid hz2
                    clear hp hz2
                    go_wp2
                    go_ret2
                    rw [HE.out, HZ2.out]
                    exact ⟨by simp, rfl⟩
                  · have b5 : ((u : Int) % 2 == 1) = true := by simp; omega
                    have hz2 : Lib.unzigzag u = -((u / 2 : Nat) : Int) - 1 := by unfold Lib.unzigzag; rw [if_neg (by omega)]
                    have HZ2 := Lib.hid hz2
                    clear hp hz2
                    go_wp2
                    go_ret2
                    rw [HE.out, HZ2.out]
                    exact ⟨by have hx' := hx; simp at hx' ⊢; exact hx', rfl⟩
      · have he : sigFrom 0 0 bs = (0, 0) := by rw [hdec.out, List.drop_eq_nil_of_le (by omega)]; rfl
        have HE := Lib.hid he
        clear he
        go_wp2
        go_ret2
        rw [HE.out]
        exact ⟨rfl, rfl⟩
end Go.Proofs.YtegdpagjloidnaaGreatDoor
