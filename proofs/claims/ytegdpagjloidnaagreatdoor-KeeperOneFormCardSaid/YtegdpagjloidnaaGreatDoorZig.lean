/- A signed number as bytes. -/
import Derived.Test.YtegdpagjloidnaaGreatDoorSee2
import Derived.Lib.VarintMem
import Derived.Lib.Zigzag
import Derived.Lib.VarintBits
import Derived.WalkKit
namespace Go.Proofs.YtegdpagjloidnaaGreatDoor
open Go.RowKit Go.Conc

/-- Blocks that hold no cells of e stay. -/
def KeepKind (e : TypeId) (w w' : World) : Prop := ∀ (k : Nat) (o : Obj), w.heap[k]? = some o → (∀ c fz, o ≠ Obj.cells c e fz) → w'.heap[k]? = some o
theorem KeepKind.refl (e : TypeId) (w : World) : KeepKind e w w := fun _ _ h _ => h
theorem KeepKind.trans {e : TypeId} {a b c : World} (h : KeepKind e a b) (g : KeepKind e b c) : KeepKind e a c := fun k o ho hn => g k o (h k o ho hn) hn
theorem KeepKind.alloc (e : TypeId) (w : World) (o : Obj) : KeepKind e w (w.alloc o) := fun k o' h _ => by rw [heap_alloc_lt _ _ (lt_of_heap h)]; exact h
theorem KeepKind.drew (e : TypeId) (w : World) : KeepKind e w w.drew := fun _ _ h _ => h
theorem KeepKind.grown {e : TypeId} {w w' : World} {base n : Nat} {v : Value} {xs : List Value} (ho : w.ownsRow base e 1 v n xs) (hg : w.grownBy w' v.ownBlock) : KeepKind e w w' := by
  intro k o h hn
  rw [hg.block k (lt_of_heap h) ?_]; exact h
  intro hk
  obtain ⟨c, fz, h2⟩ := Lib.ownsRow_kind ho k hk.symm
  rw [h] at h2
  exact hn c fz (by simpa using h2)
theorem KeepKind.at {e : TypeId} {w w' : World} {lo k : Nat} {cs : Array Value} {T : TypeId} {fz : Nat × Nat} (h : KeepKind e w w') (ha : At w lo k (.cells cs T fz)) (hT : T ≠ e) : At w' lo k (.cells cs T fz) :=
  ⟨ha.1, h k _ ha.2 (fun c fz' hh => by simp only [Obj.cells.injEq] at hh; exact hT hh.2.1)⟩

set_option maxHeartbeats 4000000 in
set_option maxRecDepth 100000 in
theorem put_signed (n : Int) (h1 : -9223372036854775808 ≤ n) (h2 : n ≤ 9223372036854775807) (base : Nat) (v : Value) (k : Nat) (bs : List UInt8) (w : World) (hown : w.ownsRow base 5 1 v k (Lib.byteCells bs)) (hbase : base ≤ w.heap.size) (hk : k ≤ 100000) :
    Calls Tryz.prog 25 #[v, .int .i64 n] w fun e w' => ∃ v', e = .returned v' ∧ w'.ownsRow base 5 1 v' (k + (Lib.uvarint (Lib.zigzag n)).length) (Lib.byteCells (bs ++ Lib.uvarint (Lib.zigzag n))) ∧ Below base w w' ∧ KeepKind 5 w w' := by
  have hx := Lib.zigzag_lt h1 h2
  have hlen := Lib.uvarint_length64 hx
  have hneg : n < 0 → IntKind.u64.wrap (IntKind.u64.wrap n * 2) = 18446744073709551615 - ((Lib.zigzag n : Nat) : Int) := by
    intro h; unfold Lib.zigzag; rw [if_neg (by omega), IntKind.wrap_u64, IntKind.wrap_u64]; omega
  have hpos : ¬ n < 0 → IntKind.u64.wrap (IntKind.u64.wrap n * 2) = ((Lib.zigzag n : Nat) : Int) := by
    intro h; unfold Lib.zigzag; rw [if_pos (by omega), IntKind.wrap_u64, IntKind.wrap_u64]; omega
  have HN := Lib.hid (And.intro hneg hpos)
  have HO := Lib.hid hown
  clear hown hneg hpos
  go_enter Tryz.func25, Tryz.ntmps25
  go_upto_if 10 with (fail)
  go_cut [5] from 6 to 12 (fun v5 wx => v5 = .int .u64 (Lib.zigzag n) ∧ w = wx)
  case first =>
    by_cases hz : n < 0
    · go_wp2_with fail
      go_meet
      exact ⟨by rw [Lib.zigzag_neg h1 hz], rfl⟩
    · go_wp2_with fail
      go_meet
      refine ⟨?_, rfl⟩
      rw [← HN.out.2 hz]
  case rest =>
    obtain ⟨rfl, rfl⟩ := hcut
    go_wp2
    go_loopw [0, 5] (fun vb vx wr => ∃ (y : Nat) (pre : List UInt8), vx = .int .u64 y ∧ y ≤ Lib.zigzag n ∧ Hid (Lib.uvarint (Lib.zigzag n) = pre ++ Lib.uvarint y) ∧ wr.ownsRow base 5 1 vb (k + pre.length) (Lib.byteCells (bs ++ pre)) ∧ Below base w wr ∧ KeepKind 5 w wr)
      (fun _ vx _ => (intOf vx).toNat)
    case atStart => exact ⟨_, [], rfl, Nat.le_refl _, rfl, by simpa using HO.out, Below.refl _ _, KeepKind.refl _ _⟩
    case round =>
      obtain ⟨y, pre, rfl, hy, hsplit, hown1, hnx, hkk⟩ := hrel
      have hpl : pre.length + (Lib.uvarint y).length ≤ 10 := by
        have h2 := congrArg List.length hsplit.out
        rw [List.length_append] at h2
        omega
      have hyp := Lib.uvarint_pos y
      have hsz := hnx.size
      have HO1 := Lib.hid hown1
      clear hown1
      by_cases h128 : 128 ≤ y
      · have hor : bits .or .u8 ((y : Int) % 256) 128 = ((y % 128 + 128 : Nat) : Int) := by
          rw [Lib.u8_or128_any _ (by omega) (by omega)]
          omega
        go_wp2_with (at_builtin; refine wpList_app_one Tryz.underlying26 infoU8 rfl rfl _ _ rfl base _ (k + pre.length) _ rfl HO1.out _ _ rfl rfl rfl (by omega) (by unfold maxLen; omega) (by omega) ?_; intro v' w1 hown' hgrow; have HG := Lib.hid (And.intro hown' hgrow); clear hown' hgrow)
        have hnx1 : Below base w w1 := (hnx.alloc (by omega) _).grown HG.out.2 (by simp; omega) (fun k hk => (HO1.out.lt k hk).1)
        have hkk1 := hkk.trans ((KeepKind.alloc _ _ _).trans (KeepKind.grown (HO1.out.alloc _) HG.out.2))
        have hle := Nat.div_le_self y 128
        refine ⟨⟨y / 128, pre ++ [(y % 128 + 128).toUInt8], by simp, by omega, ?_, ?_, hnx1, hkk1⟩, by simp [intOf]; omega⟩
        · show _ = _
          rw [hsplit.out, Lib.uvarint_big h128]; simp
        · have ec : ((y % 128 + 128 : Nat) : Int) = (y : Int) % 128 + 128 := by omega
          rw [← List.append_assoc, Lib.byteCells_snoc _ (by omega), List.length_append, List.length_singleton, ← Nat.add_assoc, ec]
          exact HG.out.1
      · go_wp2_with (at_builtin; refine wpList_app_one Tryz.underlying26 infoU8 rfl rfl _ _ rfl base _ (k + pre.length) _ rfl HO1.out _ _ rfl rfl rfl (by omega) (by unfold maxLen; omega) (by omega) ?_; intro v' w1 hown' hgrow; have HG := Lib.hid (And.intro hown' hgrow); clear hown' hgrow)
        have hnx1 : Below base w w1 := (hnx.alloc (by omega) _).grown HG.out.2 (by simp; omega) (fun k hk => (HO1.out.lt k hk).1)
        have hkk1 := hkk.trans ((KeepKind.alloc _ _ _).trans (KeepKind.grown (HO1.out.alloc _) HG.out.2))
        go_ret
        refine ⟨v', rfl, ?_, hnx1, hkk1⟩
        rw [hsplit.out, Lib.uvarint_small (by omega), ← List.append_assoc, Lib.byteCells_snoc _ (by omega), List.length_append, List.length_singleton, ← Nat.add_assoc]
        exact HG.out.1
end Go.Proofs.YtegdpagjloidnaaGreatDoor
