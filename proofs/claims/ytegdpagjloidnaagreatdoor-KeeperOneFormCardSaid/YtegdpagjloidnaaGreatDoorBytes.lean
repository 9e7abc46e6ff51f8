/- Rows of bytes that a call makes, appended to. -/
import Derived.Test.YtegdpagjloidnaaGreatDoorDisk
import Derived.Laws.BytesArg
import Derived.Lib.AppendStr
namespace Go.Proofs.YtegdpagjloidnaaGreatDoor
open Go.RowKit Go.Conc

theorem owns_lit (w : World) (cs : Array Value) (e : TypeId) (h : cs.size ≤ 100000) : (w.alloc (.cells cs e)).ownsRow w.heap.size e 1 (.slice (some ⟨w.heap.size, 0, none⟩) cs.size cs.size) cs.size cs.toList := by
  refine ⟨by simp, Or.inr ⟨w.heap.size, cs.size, cs, rfl, Nat.le_refl _, heap_alloc_at _ _, Nat.le_refl _, by unfold maxLen; omega, by simp, ?_⟩⟩
  rw [Nat.mul_one, List.take_of_length_le (by simp)]

theorem addr_add (b j : Nat) : (⟨b, 0, none⟩ : Addr).add j = ⟨b, j, none⟩ := by unfold Addr.add; split <;> simp_all

theorem below_of_grown {base : Nat} {w w' : World} {v : Value} {e : TypeId} {n : Nat} {xs : List Value} (ho : w.ownsRow base e 1 v n xs) (hg : w.grownBy w' v.ownBlock) (hb : base ≤ w.heap.size) : Below base w w' :=
  (Below.refl base w).grown hg hb (fun k hk => (ho.lt k hk).1)

/-- 'append(s, literal)': the literal is the newest block. -/
theorem wpList_app_lit {ops : Array Oper} {rest : List Oper} {o : Oper} {a : Act} {Q : Exit → Act → World → Prop} {w : World} (hgd : o.guard = none) (s x : Operand)
    (ho : o.op = .call { callee := .builtin .append, args := #[s, x], argTypes := #[26, 26] }) (base : Nat) (v : Value) (n : Nat) (xs : List Value) (hs : a.eval s = v) (hown : w.ownsRow base 5 1 v n xs)
    (cs : Array Value) (m S : Nat) (hx : a.eval x = .slice (some ⟨S, 0, none⟩) m m) (hS : w.heap.size = S) (hm : cs.size = m) (h1 : ∀ u ∈ cs.toList, u.oneCell' = true) (hb : n + m ≤ 140737488355328) (hbase : base ≤ w.heap.size)
    (h : ∀ v' w', w'.ownsRow base 5 1 v' (n + m) (xs ++ cs.toList) → Below base w w' → wpList Tryz.prog ops Q rest (a.put o.dst v') w') : wpList Tryz.prog ops Q (o :: rest) a (w.alloc (.cells cs 5)) := by
  subst hS
  obtain ⟨i0, hi, hz0, hz1, hz2⟩ := info_parts infoU8
  refine wpList_append_own _ hgd s x 26 ho base 5 i0 (.int .u8 0) 1 1 Tryz.underlying26 hi hz0 hz1 hz2 rfl (by decide) v n xs hs (hown.alloc _) ⟨w.heap.size, 0, none⟩ m m cs.toList hx (by simp [hm]) ?_ h1 (by unfold maxLen; omega) (by omega) (by simp; omega) ?_
  · intro j u hj
    rw [addr_add, row_cells (heap_alloc_at w (.cells cs 5))]; simpa using hj
  · intro v' w' ho' hg _
    exact h v' w' ho' ((Below.refl base w).alloc hbase _ |>.trans (below_of_grown (hown.alloc _) hg (by simp; omega)))
/-- A byte as a value. -/
def U8 (b : UInt8) : Value := .int .u8 b.toNat
/-- A slice of bytes that reads so. -/
def Reads (w : World) (v : Value) (xs : List UInt8) : Prop :=
  (xs = [] ∧ v = .slice none 0 0) ∨ ∃ b off cap, v = .slice (some ⟨b, off, none⟩) xs.length cap ∧ xs.length ≤ cap ∧ ∀ i, i < xs.length → w.cell? ⟨b, off + i, none⟩ = some (U8 (xs.getD i 0))

theorem strOf_bytes (xs : List UInt8) : strOfNums (xs.map fun b => (b.toNat : Int)) = ⟨xs.toArray⟩ := by
  have : (xs.map fun b => (b.toNat : Int)).map (fun n => UInt8.ofNat n.toNat) = xs := by
    rw [List.map_map]
    exact (List.map_congr_left (fun b _ => by simp)).trans (List.map_id xs)
  simp only [strOfNums, this]

theorem run_string_of {w : World} {v : Value} {xs : List UInt8} (h : Reads w v xs) : (convert 26 9 v).run Tryz.prog w = .ok (.string ⟨xs.toArray⟩) w := by
  rcases h with ⟨rfl, rfl⟩ | ⟨b, off, cap, rfl, _, hc⟩
  · exact run_convert_bytes_nil w 26 5 Tryz.underlying26 Tryz.underlying5 0 0 9 Tryz.underlying9
  · have := run_convert_bytes_arg (P := Tryz.prog) w 26 5 Tryz.underlying26 Tryz.underlying5 b off xs.length cap (xs.map fun b => (b.toNat : Int)) (by simp) (by
      intro i hi
      rw [hc i hi, U8]
      simp [List.getD, List.getElem?_eq_getElem hi]) 9 Tryz.underlying9
    rw [this, strOf_bytes]

set_option maxHeartbeats 400000 in
theorem bytes_equal (v u : Value) (xs ys : List UInt8) (w : World) (h1 : Reads w v xs) (h2 : Reads w u ys) :
    Calls Tryz.prog 109 #[v, u] w fun e w' => e = .returned (.bool (xs == ys)) ∧ w = w' := by
  have c1 := run_string_of h1
  have c2 := run_string_of h2
  clear h1 h2
  go_enter Tryz.func109, Tryz.ntmps109
  go_wp2
  go_ret
  exact ⟨rfl, rfl⟩

theorem Reads.take {w : World} {b off cap : Nat} {xs : List UInt8} (h : Reads w (.slice (some ⟨b, off, none⟩) xs.length cap) xs) (n : Nat) (hn : n ≤ xs.length) (cap' : Nat) (hc : n ≤ cap') :
    Reads w (.slice (some ⟨b, off, none⟩) n cap') (xs.take n) := by
  rcases h with ⟨rfl, h⟩ | ⟨b', off', cap'', h, hl, hcell⟩
  · simp at h
  · simp only [Value.slice.injEq, Option.some.injEq, Addr.mk.injEq, and_true] at h
    obtain ⟨⟨rfl, rfl⟩, _, rfl⟩ := h
    have hl' : (xs.take n).length = n := by simp [hn]
    refine Or.inr ⟨b, off, cap', by rw [hl'], by omega, fun i hi => ?_⟩
    rw [hl'] at hi
    rw [hcell i (by omega)]
    simp [List.getD, hi]

set_option maxHeartbeats 400000 in
/-- HasPrefix at a prefix that is not longer. -/
theorem has_prefix (b off n cap : Nat) (xs ys : List UInt8) (k kc : Nat) (ao : Option Addr) (r : Bool) (w : World) (hn : xs.length = n) (hk : ys.length = k) (h1 : Reads w (.slice (some ⟨b, off, none⟩) n cap) xs) (h2 : Reads w (.slice ao k kc) ys) (hle : k ≤ n) (hcap : n ≤ cap) (hr : (xs.take k == ys) = r) :
    Calls Tryz.prog 69 #[.slice (some ⟨b, off, none⟩) n cap, .slice ao k kc] w fun e w' => e = .returned (.bool r) ∧ w = w' := by
  subst hk hn
  have h3 := h1.take ys.length hle cap (by omega)
  have H := Lib.hid (And.intro h3 (And.intro h2 hr))
  clear h1 h2 h3 hr
  have d : decide (xs.length < ys.length) = false := by simp; omega
  go_enter Tryz.func69, Tryz.ntmps69
  go_wp2_with (go_at_call 109; refine (bytes_equal _ _ _ _ _ H.out.1 H.out.2.1).mono ?_; rintro e w1 ⟨rfl, rfl⟩)
  go_ret
  exact ⟨by rw [← H.out.2.2]; rfl, rfl⟩

theorem own_shape {w : World} {base : Nat} {e : TypeId} {v : Value} {n : Nat} {xs : List Value} (h : w.ownsRow base e 1 v (n + 1) xs) : ∃ g cap, v = .slice (some ⟨g, 0, none⟩) (n + 1) cap ∧ base ≤ g ∧ n + 1 ≤ cap := by
  obtain ⟨_, h | ⟨g, cap, cur, rfl, hb, hg, hn, _⟩⟩ := h
  · omega
  · exact ⟨g, cap, rfl, hb, hn⟩
theorem reads_row {w : World} {b : Nat} {cs : Array Value} {T : TypeId} {fz : Nat × Nat} (h : w.heap[b]? = some (.cells cs T fz)) (xs : List UInt8) (cap : Nat) (hc : xs.length ≤ cap) (hx : cs.toList.take xs.length = xs.map U8) : Reads w (.slice (some ⟨b, 0, none⟩) xs.length cap) xs := by
  refine Or.inr ⟨b, 0, cap, rfl, hc, fun i hi => ?_⟩
  rw [Nat.zero_add, row_cells h]
  have h1 : (cs.toList.take xs.length)[i]? = (xs.map U8)[i]? := by rw [hx]
  rw [List.getElem?_take, if_pos hi] at h1
  rw [← Array.getElem?_toList, h1]
  simp [List.getD, List.getElem?_eq_getElem hi]
theorem reads_own {w : World} {base : Nat} {e : TypeId} {v : Value} {n : Nat} {xs : List UInt8} (h : w.ownsRow base e 1 v n (xs.map U8)) : Reads w v xs := by
  obtain ⟨hl, h | ⟨g, cap, cur, rfl, hb, hg, hn, hm, hs, ht⟩⟩ := h
  · simp at hl; obtain ⟨rfl, rfl⟩ := h; simp at hl; exact Or.inl ⟨hl, rfl⟩
  · simp at hl ht; subst hl; exact reads_row hg xs cap hn ht
end Go.Proofs.YtegdpagjloidnaaGreatDoor
