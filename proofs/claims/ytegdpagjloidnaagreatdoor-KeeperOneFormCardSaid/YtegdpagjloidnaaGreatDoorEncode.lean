/- An input's bytes: keeper.Encode. -/
import Derived.Test.YtegdpagjloidnaaGreatDoorZig
import Derived.BigRegion
import Derived.Laws.AppendOwnNone
import Derived.Lib.AppendStr
import Derived.StillTailTactics
import Derived.Deep.RegionLaw
namespace Go.Proofs.YtegdpagjloidnaaGreatDoor
open Go.RowKit Go.Conc

/-- An input. -/
structure Inp where
  (kind ses id ok : Int)
  name : ByteArray
  (a b : Int)
  data : List UInt8
def Inp.vals (x : Inp) (dv : Value) : Array Value := #[.int .i64 x.kind, .int .i64 x.ses, .int .i64 x.id, .int .i64 x.ok, .string x.name, .int .i64 x.a, .int .i64 x.b, dv]
/-- All but the kind and the data are nothing. -/
def Inp.blank (x : Inp) : Bool := x.ses == 0 && x.id == 0 && x.ok == 0 && x.name.toList.isEmpty && x.a == 0 && x.b == 0
def Inp.is (x : Inp) : Bool :=
  if x.kind = 1 then x.data.length == 0 else if x.kind = 2 ∨ x.kind = 3 then x.blank else if x.kind = 4 then x.blank && x.data.length == 0 else false

set_option maxHeartbeats 4000000 in
set_option maxRecDepth 100000 in
theorem input_is (x : Inp) (ao : Option Addr) (n cap : Nat) (hn : x.data.length = n) (w : World) :
    Calls Tryz.prog 23 #[.agg (x.vals (.slice ao n cap))] w fun e w' => e = .returned (.bool x.is) ∧ w' = w.alloc (.cells (x.vals (.slice ao n cap)) 34) := by
  have HN := Lib.hid hn
  clear hn
  unfold Inp.vals
  go_enter Tryz.func23, Tryz.ntmps23
  go_wp2
  all_goals go_ret
  all_goals replace HN := HN.out
  all_goals have hb : ((n : Int) == 0) = (n == 0) := by rw [Bool.eq_iff_iff]; simp
  all_goals (refine ⟨?_, ?_⟩ <;> simp_all [Inp.is, Inp.blank])

set_option maxHeartbeats 4000000 in
set_option maxRecDepth 100000 in
theorem input_numbers (X : Nat) (w : World) :
    Calls Tryz.prog 24 #[.pointer (some ⟨X, 0, none⟩)] w fun e w' => e = .returned (.slice (some ⟨w.heap.size, 0, none⟩) 5 5) ∧
      w' = w.drew.alloc (.cells #[.pointer (some ⟨X, 1, none⟩), .pointer (some ⟨X, 2, none⟩), .pointer (some ⟨X, 3, none⟩), .pointer (some ⟨X, 5, none⟩), .pointer (some ⟨X, 6, none⟩)] 75) := by
  go_enter Tryz.func24, Tryz.ntmps24
  go_wp2_with fail
  go_still_tail 20, (by kernel_rfl)
  change wpList _ _ _ _ _ w.drew
  generalize hw : w.drew = w2
  go_wp2
  subst hw
  go_ret
  exact ⟨rfl, rfl⟩

theorem addr_add' (b o j : Nat) : (⟨b, o, none⟩ : Addr).add j = ⟨b, o + j, none⟩ := by unfold Addr.add; split <;> simp_all
theorem Reads.below {w w' : World} {v : Value} {xs : List UInt8} {B : Nat} (h : Reads w v xs) (hb : Below B w w') (hB : w.heap.size ≤ B) : Reads w' v xs := by
  rcases h with h | ⟨b, off, cap, h1, h2, h3⟩
  · exact Or.inl h
  · refine Or.inr ⟨b, off, cap, h1, h2, fun i hi => ?_⟩
    have h4 := h3 i hi
    have := World.block_lt_of_cell? w _ h4
    rw [hb.cell (p := ⟨b, off + i, none⟩) (by show b < B; have : b < w.heap.size := this; omega)]; exact h4

/-- 'append(v, data...)'. -/
theorem run_app_data {W : World} {base k : Nat} {v dv : Value} {bs data : List UInt8} (hown : W.ownsRow base 5 1 v k (Lib.byteCells bs)) (hd : Reads W dv data) (hk : k ≤ 1000000) (hl : data.length ≤ 1000000) (hbase : base ≤ W.heap.size) :
    ∃ v' W', (Builtin.append_ #[26, 26] 26 #[v, dv]).run Tryz.prog W = .ok v' W' ∧ W'.ownsRow base 5 1 v' (k + data.length) (Lib.byteCells (bs ++ data)) ∧ W.grownBy W' v.ownBlock := by
  obtain ⟨i0, hi, hz0, hz1, hz2⟩ := info_parts infoU8
  rcases hd with ⟨rfl, rfl⟩ | ⟨b, off, cap, rfl, hc, hcell⟩
  · have hr := run_append_owned_none (P := Tryz.prog) (w := W) base 26 26 5 i0 1 Tryz.underlying26 hi v k _ hown
    exact ⟨v, W, hr, by simpa using hown, ⟨rfl, rfl, rfl, Nat.le_refl _, fun _ _ _ => rfl⟩⟩
  · obtain ⟨v', W', hr, ho, hg, _⟩ := run_append_own (P := Tryz.prog) W base 26 26 5 i0 (.int .u8 0) 1 1 Tryz.underlying26 hi hz0 hz1 hz2 rfl (by decide) v k _ hown ⟨b, off, none⟩ data.length cap (Lib.byteCells data) (by simp [Lib.byteCells]) (by
      intro j u hj
      rw [addr_add']
      simp only [Lib.byteCells, List.getElem?_map, Option.map_eq_some_iff] at hj
      obtain ⟨x, hx, rfl⟩ := hj
      have hjl : j < data.length := (List.getElem?_eq_some_iff.1 hx).1
      rw [hcell j hjl, U8]
      simp [List.getD, hx]) (by intro u hu; simp only [Lib.byteCells, List.mem_map] at hu; obtain ⟨x, _, rfl⟩ := hu; rfl) (by unfold maxLen; omega) (by omega) hbase
    exact ⟨v', W', hr, by simpa [Lib.byteCells] using ho, hg⟩
/-- 'append(v, s...)'. -/
theorem run_app_str {W : World} {base k : Nat} {v : Value} {bs : List UInt8} {s : ByteArray} (hown : W.ownsRow base 5 1 v k (Lib.byteCells bs)) (hk : k ≤ 1000000) (hl : s.size ≤ 1000000) (hbase : base ≤ W.heap.size) :
    ∃ v' W', (Builtin.append_ #[26, 9] 26 #[v, .string s]).run Tryz.prog W = .ok v' W' ∧ W'.ownsRow base 5 1 v' (k + s.size) (Lib.byteCells (bs ++ s.data.toList)) ∧ W.grownBy W' v.ownBlock := by
  obtain ⟨i0, hi, hz0, hz1, hz2⟩ := info_parts infoU8
  obtain ⟨v', W', hr, ho, hg, _⟩ := Lib.run_append_own_string (P := Tryz.prog) W base 26 9 26 5 i0 Tryz.underlying26 Tryz.underlying9 hi hz0 hz1 hz2 v k _ hown s (by unfold maxLen; omega) (by omega) hbase
  exact ⟨v', W', hr, by simpa [Lib.byteCells, Lib.strCells] using ho, hg⟩

def I64 (n : Int) : Prop := -9223372036854775808 ≤ n ∧ n ≤ 9223372036854775807
def putNum (n : Int) : List UInt8 := Lib.uvarint (Lib.zigzag n)
theorem putNum_len {n : Int} (h : I64 n) : (putNum n).length ≤ 10 := Lib.uvarint_length64 (Lib.zigzag_lt h.1 h.2)
def Inp.nums (x : Inp) : List UInt8 := putNum x.ses ++ putNum x.id ++ putNum x.ok ++ putNum x.a ++ putNum x.b
def Inp.head (x : Inp) : List UInt8 := [UInt8.ofNat (x.kind % 256).toNat] ++ (if x.kind = 1 then x.nums else [])
def Inp.bytes (x : Inp) : List UInt8 := x.head ++ x.name.data.toList ++ x.data
theorem Inp.head_pos (x : Inp) : 0 < x.head.length := by simp [Inp.head]
theorem Inp.head_len (x : Inp) (i1 : I64 x.ses) (i2 : I64 x.id) (i3 : I64 x.ok) (i4 : I64 x.a) (i5 : I64 x.b) : x.head.length ≤ 51 := by
  have := putNum_len i1; have := putNum_len i2; have := putNum_len i3; have := putNum_len i4; have := putNum_len i5
  unfold Inp.head Inp.nums
  split <;> simp <;> omega
/-- An input's bytes, and the error. -/
def Inp.enc (x : Inp) : List UInt8 × Int :=
  if x.is = false then ([], 220) else if x.data.length + x.name.size > 8192 then ([], 2) else if x.bytes.length > 8192 then ([], 2) else (x.bytes, 0)

def numRow (X : Nat) : Array Value := #[.pointer (some ⟨X, 1, none⟩), .pointer (some ⟨X, 2, none⟩), .pointer (some ⟨X, 3, none⟩), .pointer (some ⟨X, 5, none⟩), .pointer (some ⟨X, 6, none⟩)]
def Inp.five (x : Inp) : List Int := [x.ses, x.id, x.ok, x.a, x.b]
/-- The kind and the first k numbers. -/
def Inp.pre (x : Inp) (k : Nat) : List UInt8 := [UInt8.ofNat (x.kind % 256).toNat] ++ ((x.five.take k).map putNum).flatten
theorem Inp.pre_zero (x : Inp) : x.pre 0 = [UInt8.ofNat (x.kind % 256).toNat] := by simp [Inp.pre]
theorem Inp.head_other (x : Inp) (h : x.kind ≠ 1) : x.head = [UInt8.ofNat (x.kind % 256).toNat] := by simp [Inp.head, h]
theorem Inp.pre_five (x : Inp) (h : x.kind = 1) : x.pre 5 = x.head := by
  simp [Inp.pre, Inp.head, Inp.five, h, Inp.nums]
theorem Inp.pre_step (x : Inp) (dv : Value) (X k : Nat) (hk : k < 5) (i1 : I64 x.ses) (i2 : I64 x.id) (i3 : I64 x.ok) (i4 : I64 x.a) (i5 : I64 x.b) :
    ∃ j n, (numRow X)[k]? = some (.pointer (some ⟨X, j, none⟩)) ∧ (x.vals dv)[j]? = some (.int .i64 n) ∧ -9223372036854775808 ≤ n ∧ n ≤ 9223372036854775807 ∧ x.pre (k + 1) = x.pre k ++ putNum n ∧ (x.pre k).length ≤ 41 := by
  have := putNum_len i1; have := putNum_len i2; have := putNum_len i3; have := putNum_len i4; have := putNum_len i5
  match k, hk with
  | 0, _ => exact ⟨1, x.ses, rfl, rfl, i1.1, i1.2, by simp [Inp.pre, Inp.five], by simp [Inp.pre, Inp.five]⟩
  | 1, _ => exact ⟨2, x.id, rfl, rfl, i2.1, i2.2, by simp [Inp.pre, Inp.five], by simp [Inp.pre, Inp.five]; omega⟩
  | 2, _ => exact ⟨3, x.ok, rfl, rfl, i3.1, i3.2, by simp [Inp.pre, Inp.five], by simp [Inp.pre, Inp.five]; omega⟩
  | 3, _ => exact ⟨5, x.a, rfl, rfl, i4.1, i4.2, by simp [Inp.pre, Inp.five], by simp [Inp.pre, Inp.five]; omega⟩
  | 4, _ => exact ⟨6, x.b, rfl, rfl, i5.1, i5.2, by simp [Inp.pre, Inp.five], by simp [Inp.pre, Inp.five]; omega⟩
theorem kind_cell (k : Int) : Lib.byteCells [UInt8.ofNat (k % 256).toNat] = [Value.int .u8 (k % 256)] := by
  have h1 : 0 ≤ k % 256 := Int.emod_nonneg _ (by decide)
  have h2 : k % 256 < 256 := Int.emod_lt_of_pos _ (by decide)
  have h3 : (k % 256).toNat % 256 = (k % 256).toNat := Nat.mod_eq_of_lt (by omega)
  simp [Lib.byteCells, h3]; omega
/-- An append whose run is known, as a step of a region that draws. -/
theorem step_of_append {P : Program} {ops : Array Oper} {o : Oper} {a : Act} {w : World} {K : Act → World → Prop} {Q : Exit → Act → World → Prop} {E : Prop} (hgd : o.guard = none) (s x : Operand) (t u : TypeId)
    (ho : o.op = .call { callee := .builtin .append, args := #[s, x], argTypes := #[t, u] }) (v y : Value) (hs : a.eval s = v) (hx : a.eval x = y) {v' : Value} {w' : World}
    (hr : (Builtin.append_ #[t, u] o.type #[v, y]).run P w = .ok v' w') (h : K (a.put o.dst v') w') :
    if Region.wanted o (yielded ops a.tmps) = true then Oper.wp P o a w K Q else E := by
  have hw : Region.wanted o (yielded ops a.tmps) = true := by simp [Region.wanted, hgd]
  rw [if_pos hw]
  unfold Oper.wp execOp
  simp only [ho, resolve, invoke, builtin, Sem.run_bind, Sem.run_pure, Result.andThen_ok, List.map_toArray, List.map_cons, List.map_nil, hs, hx, hr]
  exact h
end Go.Proofs.YtegdpagjloidnaaGreatDoor
