/- Maps by their entries, for keys of a type that reads into a decidable type: looking up, writing, taking out. -/
import Derived.Test.YtegdpagjloidnaaGreatDoorMem
namespace Go.Proofs.YtegdpagjloidnaaGreatDoor
open Go.RowKit Go.Conc

section
variable {α : Type}

/-- The entries, as keys and values. -/
def Ents (key : α → Value) (l : List (α × Value)) (es : List MapEntry) : Prop := es.map (fun e => (e.key, e.val)) = l.map (fun p => (key p.1, p.2))

def findIx [DecidableEq α] (a : α) : List (α × Value) → Nat → Option (Nat × Value)
  | [], _ => none
  | p :: l, i => if a = p.1 then some (i, p.2) else findIx a l (i + 1)

structure KeyLaw [DecidableEq α] (P : Program) (kt : TypeId) (key : α → Value) : Prop where
  check : ∀ (a : α) (e : Bool) (w : World), (Instr.checkKey e 10000 kt (key a)).run P w = .ok () w
  find : ∀ (a : α) (l : List (α × Value)) (es : List MapEntry), Ents key l es → ∀ w, (Instr.findKey kt (key a) es).run P w = .ok (findIx a l 0) w
  stays : ∀ (a : α) (w : World), (Instr.keyThatStays (key a) (key a)).run P w = .ok (key a) w

theorem ents_cons {key : α → Value} {l : List (α × Value)} {e : MapEntry} {es : List MapEntry} (h : Ents key l (e :: es)) :
    ∃ p l', l = p :: l' ∧ e.key = key p.1 ∧ e.val = p.2 ∧ Ents key l' es := by
  cases l with
  | nil => simp [Ents] at h
  | cons p l' =>
    simp only [Ents, List.map_cons, List.cons.injEq, Prod.mk.injEq] at h
    exact ⟨p, l', rfl, h.1.1, h.1.2, h.2⟩
theorem ents_nil {key : α → Value} {l : List (α × Value)} (h : Ents key l []) : l = [] := by
  cases l with
  | nil => rfl
  | cons p l => simp [Ents] at h

theorem find_asking [DecidableEq α] {P : Program} {kt : TypeId} {key : α → Value} (heq : ∀ (a b : α) (w : World), (Op.equal kt (key a) (key b)).run P w = .ok (decide (a = b)) w) (a : α) :
    ∀ (es : List MapEntry) (l : List (α × Value)) (i : Nat), Ents key l es → ∀ w, (Instr.findAsking kt (key a) es i).run P w = .ok (findIx a l i) w := by
  intro es
  induction es with
  | nil => intro l i h w; rw [ents_nil h]; rfl
  | cons e es ih =>
    intro l i h w
    obtain ⟨p, l', rfl, hk, hv, h'⟩ := ents_cons h
    simp only [Instr.findAsking, Sem.run_bind, hk, heq, Result.andThen_ok, findIx]
    by_cases hab : a = p.1
    · simp [hab, hv]
    · simp only [hab, decide_false, Bool.false_eq_true, if_false]
      exact ih l' (i + 1) h' w

theorem keyLaw_struct [DecidableEq α] {P : Program} {kt : TypeId} {key : α → Value} {fa : Array Field} (hk : P.underlying kt = some (.struct fa))
    (heq : ∀ (a b : α) (w : World), (Op.equal kt (key a) (key b)).run P w = .ok (decide (a = b)) w)
    (hcheck : ∀ (a : α) (e : Bool) (w : World), (Instr.checkKey e 10000 kt (key a)).run P w = .ok () w)
    (hstay : ∀ (a : α), Instr.sameBits 10000 (key a) (key a) = true) : KeyLaw P kt key where
  check := hcheck
  find := by
    intro a l es h w
    simp only [Instr.findKey, Sem.run_bind, run_underlying hk, Result.andThen_ok]
    cases es with
    | nil => rw [ents_nil h]; rfl
    | cons e es =>
      have hn : Instr.findNow (.struct fa) (key a) (e :: es) 0 = none := by
        simp [Instr.findNow, Instr.sameNow]
      rw [hn]
      exact find_asking heq a (e :: es) l 0 h w
  stays := fun a w => by simp [Instr.keyThatStays, hstay]

theorem findNow_int {q : IntKind} (a : Int) : ∀ (es : List MapEntry) (l : List (Int × Value)) (i : Nat), Ents (Value.int q) l es → Instr.findNow (.int q) (.int q a) es i = some (findIx a l i) := by
  intro es
  induction es with
  | nil => intro l i h; rw [ents_nil h]; rfl
  | cons e es ih =>
    intro l i h
    obtain ⟨p, l', rfl, hk, hv, h'⟩ := ents_cons h
    simp only [Instr.findNow, hk, Instr.sameNow, if_true, findIx]
    by_cases hab : a = p.1
    · simp [hab, hv]
    · have : (a == p.1) = false := by simpa using hab
      simp only [this, hab, if_false]
      exact ih l' (i + 1) h'

theorem keyLaw_int {P : Program} {kt : TypeId} {q : IntKind} (hk : P.underlying kt = some (.int q)) : KeyLaw P kt (Value.int q) where
  check := fun a e w => by
    rw [show (10000 : Nat) = 9999 + 1 from rfl, Instr.checkKey]
    simp only [Sem.run_bind, run_underlying hk, Result.andThen_ok]; rfl
  find := fun a l es h w => by
    simp only [Instr.findKey, Sem.run_bind, run_underlying hk, Result.andThen_ok, findNow_int a es l 0 h]; rfl
  stays := fun a w => by simp [Instr.keyThatStays, Instr.sameBits]

theorem bytes_beq (a b : ByteArray) : (a == b) = decide (a = b) := by
  rw [beq_toListBytes, ByteArray.toList_eq, ByteArray.toList_eq]
  by_cases h : a = b
  · simp [h]
  · have hn : ¬ a.data = b.data := fun hh => h (by cases a; cases b; simp only [ByteArray.mk.injEq]; exact hh)
    simp [h, hn]
theorem findNow_string (a : ByteArray) : ∀ (es : List MapEntry) (l : List (ByteArray × Value)) (i : Nat), Ents Value.string l es → Instr.findNow .string (.string a) es i = some (findIx a l i) := by
  intro es
  induction es with
  | nil => intro l i h; rw [ents_nil h]; rfl
  | cons e es ih =>
    intro l i h
    obtain ⟨p, l', rfl, hk, hv, h'⟩ := ents_cons h
    simp only [Instr.findNow, hk, Instr.sameNow, findIx, bytes_beq]
    by_cases hab : a = p.1
    · simp [hab, hv]
    · simp only [hab, decide_false, if_false]
      exact ih l' (i + 1) h'

theorem keyLaw_string {P : Program} {kt : TypeId} (hk : P.underlying kt = some .string) : KeyLaw P kt Value.string where
  check := fun a e w => by
    rw [show (10000 : Nat) = 9999 + 1 from rfl, Instr.checkKey]
    simp only [Sem.run_bind, run_underlying hk, Result.andThen_ok]; rfl
  find := fun a l es h w => by
    simp only [Instr.findKey, Sem.run_bind, run_underlying hk, Result.andThen_ok, findNow_string a es l 0 h]; rfl
  stays := fun a w => by simp [Instr.keyThatStays, Instr.sameBits, bytes_beq]

/-- The births of a map's entries. -/
def Born (es : Array MapEntry) (clock : Nat) : Prop := (∀ e ∈ es.toList, e.born < clock) ∧ es.toList.Pairwise (fun x y => x.born ≠ y.born)

/-- Block b is a map with these entries. -/
def MapAt (w : World) (lo b : Nat) (key : α → Value) (l : List (α × Value)) : Prop :=
  ∃ es clock, At w lo b (.map es clock) ∧ Ents key l es.toList ∧ Born es clock
theorem MapAt.keep {w w' : World} {lo b : Nat} {key : α → Value} {l : List (α × Value)} (h : MapAt w lo b key l) (hs : Same lo w w') : MapAt w' lo b key l := by
  obtain ⟨es, c, h1, h2⟩ := h; exact ⟨es, c, h1.keep hs, h2⟩
theorem MapAt.of_empty {w : World} {lo b : Nat} (key : α → Value) (h : At w lo b (.map #[] 0)) : MapAt w lo b key [] := ⟨#[], 0, h, rfl, by simp, by simp⟩

/-- The world with other entries in a map. -/
def putMap (w : World) (b : Nat) (es : Array MapEntry) (clock : Nat) : World := { w with heap := w.heap.setIfInBounds b (.map es clock) }
theorem putMap_size (w : World) (b : Nat) (es : Array MapEntry) (c : Nat) : (putMap w b es c).heap.size = w.heap.size := by simp [putMap]
theorem putMap_at (w : World) {b : Nat} (es : Array MapEntry) (c : Nat) (h : b < w.heap.size) : (putMap w b es c).heap[b]? = some (.map es c) := by simp [putMap, h]
theorem putMap_other (w : World) (b : Nat) (es : Array MapEntry) (c : Nat) {k : Nat} (h : k ≠ b) : (putMap w b es c).heap[k]? = w.heap[k]? := by
  simp only [putMap]; rw [Array.getElem?_setIfInBounds_ne (by omega)]
theorem putMap_cell (w : World) (b : Nat) (es : Array MapEntry) (c : Nat) {k o : Nat} (h : k ≠ b) : (putMap w b es c).cell? ⟨k, o, none⟩ = w.cell? ⟨k, o, none⟩ := World.cell?_of_block (w := w) (putMap_other w b es c h)
theorem putMap_frozen (w : World) (b : Nat) (es : Array MapEntry) (c : Nat) {k o : Nat} (h : k ≠ b) : (putMap w b es c).frozen? ⟨k, o, none⟩ = w.frozen? ⟨k, o, none⟩ := World.frozen?_of_block (w := w) (putMap_other w b es c h)
theorem Below.putMap {B : Nat} {a w : World} (h : Below B a w) {b : Nat} (hb : B ≤ b) (es : Array MapEntry) (c : Nat) : Below B a (putMap w b es c) :=
  h.trans ⟨rfl, rfl, rfl, by rw [putMap_size]; exact Nat.le_refl _, fun k hk => putMap_other w b es c (by omega)⟩
theorem Same.putMap {lo : Nat} (w : World) {b : Nat} (h : b < lo) (es : Array MapEntry) (c : Nat) : Same lo w (putMap w b es c) :=
  ⟨by rw [putMap_size]; exact Nat.le_refl _, fun k hk _ => putMap_other w b es c (by omega)⟩

variable [DecidableEq α] {P : Program} {t kt e : TypeId} {key : α → Value} {w : World} {b : Nat} {es : Array MapEntry} {clock : Nat} {l : List (α × Value)}

theorem run_lookup_ents (K : KeyLaw P kt key) (ht : P.underlying t = some (.map kt e)) {z : Value} (hz : (zeroValue e).run P w = .ok z w)
    (hb : w.heap[b]? = some (.map es clock)) (hl : Ents key l es.toList) (a : α) :
    (Instr.lookup t (.map (some b)) (key a) false).run P w = .ok (((findIx a l 0).map (·.2)).getD z) w := by
  have hf := K.find a l es.toList hl w
  simp only [Instr.lookup, Sem.run_bind, run_underlying ht, Result.andThen_ok, getObj, Sem.run, hb, K.check]
  cases hx : findIx a l 0 with
  | none => rw [hx] at hf; simp [hf, hz]
  | some p => rw [hx] at hf; simp [hf]

theorem run_lookup_ents_ok (K : KeyLaw P kt key) (ht : P.underlying t = some (.map kt e)) {z : Value} (hz : (zeroValue e).run P w = .ok z w)
    (hb : w.heap[b]? = some (.map es clock)) (hl : Ents key l es.toList) (a : α) :
    (Instr.lookup t (.map (some b)) (key a) true).run P w = .ok (.tuple #[((findIx a l 0).map (·.2)).getD z, .bool (findIx a l 0).isSome]) w := by
  have hf := K.find a l es.toList hl w
  simp only [Instr.lookup, Sem.run_bind, run_underlying ht, Result.andThen_ok, getObj, Sem.run, hb, K.check]
  cases hx : findIx a l 0 with
  | none => rw [hx] at hf; simp [hf, hz]
  | some p => rw [hx] at hf; simp [hf]

theorem run_update_new (K : KeyLaw P kt key) (ht : P.underlying t = some (.map kt e)) (hb : w.heap[b]? = some (.map es clock)) (hl : Ents key l es.toList) (a : α) (hn : findIx a l 0 = none) (v : Value) :
    (Instr.mapUpdate t (.map (some b)) (key a) v).run P w = .ok () (putMap w b (es.push { key := key a, val := v, born := clock }) (clock + 1)) := by
  simp only [Instr.mapUpdate, Sem.run_bind, run_underlying ht, Result.andThen_ok, getObj, Sem.run, hb, K.check]
  have hf := K.find a l es.toList hl w
  rw [hn] at hf
  simp [hf, setObj, Sem.run, hb, putMap]

omit [DecidableEq α] in
theorem ents_push (hl : Ents key l es.toList) (a : α) (v : Value) (c : Nat) : Ents key (l ++ [(a, v)]) (es.push { key := key a, val := v, born := c }).toList := by
  simp only [Ents] at hl ⊢; simp [hl]
omit [DecidableEq α] in
theorem born_push (h : Born es clock) (k v : Value) : Born (es.push { key := k, val := v, born := clock }) (clock + 1) := by
  obtain ⟨h1, h2⟩ := h
  constructor
  · intro e he
    simp at he
    rcases he with he | rfl
    · have := h1 e (by simpa using he); omega
    · simp
  · simp only [Array.toList_push, List.pairwise_append]
    refine ⟨h2, by simp, fun x hx y hy => ?_⟩
    simp at hy; subst hy
    have := h1 x hx
    simp; omega
end

theorem At.cells_putMap {w : World} {lo k b : Nat} {cs : Array Value} {T : TypeId} {fz : Nat × Nat} (h : At w lo k (.cells cs T fz)) {es : Array MapEntry} {c : Nat} (hb : w.heap[b]? = some (.map es c)) (es' : Array MapEntry) (c' : Nat) :
    At (putMap w b es' c') lo k (.cells cs T fz) := by
  refine ⟨h.1, ?_⟩
  rw [putMap_other]
  · exact h.2
  · intro hk; subst hk; rw [h.2] at hb; simp at hb

theorem At.putMap_ne {w : World} {lo k b : Nat} {o : Obj} (h : At w lo k o) (hne : k ≠ b) (es' : Array MapEntry) (c' : Nat) : At (putMap w b es' c') lo k o := ⟨h.1, by rw [putMap_other _ _ _ _ hne]; exact h.2⟩

/-- A key of two ints. -/
def pairKey (p : Int × Int) : Value := .agg #[.int .i64 p.1, .int .i64 p.2]

end Go.Proofs.YtegdpagjloidnaaGreatDoor
