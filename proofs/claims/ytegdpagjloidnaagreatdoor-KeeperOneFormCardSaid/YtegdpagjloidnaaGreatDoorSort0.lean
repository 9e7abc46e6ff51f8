/- sort.Slice of a slice without elements. -/
import Derived.Test.YtegdpagjloidnaaGreatDoorMem
import Derived.Lib.ReflectliteSlice
import Derived.Laws.Externs
namespace Go.Proofs.YtegdpagjloidnaaGreatDoor
open Go.RowKit Go.Conc Go.Lib

set_option maxHeartbeats 1000000 in
set_option maxRecDepth 100000 in
theorem pdq0 (data : Value) (d0 d1 : Value) (hdat : data = .agg #[d0, d1]) (l : Int) (w : World) (h : l = 0) :
    Calls Tryz.prog 107 #[data, .int .i64 0, .int .i64 0, .int .i64 l] w fun e w' => e = .returned (.tuple #[]) ∧ Below w.heap.size w w' := by
  subst hdat h
  go_enter Tryz.func107, Tryz.ntmps107
  go_wp2
  refine wp_loop_rounds 1 ?_; rw [rounds_succ]
  go_wp2
  refine wp_loop_rounds 1 ?_; rw [rounds_succ]
  go_wp2
  go_end0
  go_wp2
  first | go_end0 | refine bodyPost_ret (results_none rfl _ _ _) rfl ?_
  exact ⟨rfl, ((Below.refl _ _).alloc (Nat.le_refl _) _).alloc (by simp) _⟩

set_option maxHeartbeats 1000000 in
set_option maxRecDepth 100000 in
theorem bits_len0 (w : World) : Calls Tryz.prog 106 #[.int .u64 0] w fun e w' => e = .returned (.int .i64 0) ∧ w = w' := by
  go_enter Tryz.func106, Tryz.ntmps106
  go_wp2
  go_ret
  refine ⟨?_, rfl⟩
  kernel_rfl

set_option maxHeartbeats 1000000 in
set_option maxRecDepth 100000 in
theorem sort_slice0 (t e : TypeId) (i ie : TypeInfo) (hi : Tryz.prog.info? t = some i) (hd : i.desc = .slice e) (hpk : Tryz.prog.packed t = false) (hie : Tryz.prog.info? e = some ie) (ke : Nat) (hke : ∀ w, (Extern.Rtype.kind e).run Tryz.prog w = .ok ke w)
    (p : Option Addr) (c : Nat) (lf : Fn) (la lb : Array Value) (w : World) :
    Calls Tryz.prog 66 #[.iface t (.slice p 0 c), .func lf la lb] w fun e w' => e = .returned (.tuple #[]) ∧ Below w.heap.size w w' := by
  have hf : Tryz.prog.funcs.findIdx? (·.name == "internal/reflectlite" ++ ".Swapper$" ++ toString (swapperK 0 ie ke)) = some 162 := by
    have h1 : swapperK 0 ie ke = 1 := rfl
    have h2 : Tryz.prog.funcs.findIdx? (·.name == "internal/reflectlite" ++ ".Swapper$" ++ toString 1) = some 162 := by kernel_rfl
    rw [h1]; exact h2
  have hv := run_valueOf_slice (P := Tryz.prog) t e i hi hd p 0 c w
  have hs := fun w => run_swapper_slice (P := Tryz.prog) t e i ie hi hd hie ke hke p 0 c 162 hf w
  have hl := fun a w ha => run_valueLen_slice (P := Tryz.prog) t e i hi hd hpk a p 0 c w ha
  have h1 : swapperK 0 ie ke = 1 := rfl
  rw [h1] at hs
  simp only [typeHandle, Tryz.globals_size] at hv hl
  clear h1 hf
  go_enter Tryz.func66, Tryz.ntmps66
  go_wp2
  rw [run_callFunc_extern Tryz.func103 (by kernel_rfl) (by kernel_rfl) (by kernel_rfl) (e := fun args => Extern.ReflectliteValue.unpack (args.getD 0 (.tuple #[]))) (by kernel_rfl),
    show Sem.run Tryz.prog ((fun args : Array Value => Extern.ReflectliteValue.unpack (args.getD 0 (.tuple #[]))) #[.iface t (.slice p 0 c)]) w = _ from hv]
  simp only [Result.andThen]
  rw [Oper.upon_value]
  go_wp2
  rw [run_callFunc_extern Tryz.func104 (by kernel_rfl) (by kernel_rfl) (by kernel_rfl) (e := Extern.ReflectliteSwapper.swapper "internal/reflectlite" (Extern.ReflectliteValue.valueError "Swapper")) (by kernel_rfl), hs]
  simp only [Result.andThen]
  rw [Oper.upon_value]
  go_wp2
  rw [run_callFunc_extern Tryz.func105 (by kernel_rfl) (by kernel_rfl) (by kernel_rfl) (e := Extern.ReflectliteValue.method (Extern.ReflectliteValue.valueError "reflectlite.Value.Len" 0) Extern.ReflectliteValue.len) (by kernel_rfl),
    hl _ _ (by simp)]
  simp only [Result.andThen]
  rw [Oper.upon_value]
  go_wp2_with (first
    | (go_at_call 106; refine (bits_len0 _).mono ?_; rintro e w1 ⟨rfl, rfl⟩)
    | (go_at_call 107; refine (pdq0 _ _ _ rfl 0 _ rfl).mono ?_; rintro e w1 ⟨rfl, hb⟩))
  go_end0
  simp at hb
  exact ⟨rfl, ((((Below.refl _ _).alloc (Nat.le_refl _) _).alloc (by simp) _).trans (hb.mono (by omega)))⟩

theorem counters_slice0 (p : Option Addr) (c : Nat) (lf : Fn) (la lb : Array Value) (w : World) :
    Calls Tryz.prog 66 #[.iface 139 (.slice p 0 c), .func lf la lb] w fun e w' => e = .returned (.tuple #[]) ∧ Below w.heap.size w w' := by
  have h : ∃ i, Tryz.prog.info? 139 = some i ∧ i.desc = .slice 141 := by
    have h1 : (Tryz.prog.info? 139).map (·.desc) = some (.slice 141) := by kernel_rfl
    obtain ⟨i, hi, hd⟩ := Option.map_eq_some_iff.1 h1; exact ⟨i, hi, hd⟩
  have h2 : ∃ i, Tryz.prog.info? 141 = some i := by
    have h1 : (Tryz.prog.info? 141).isSome = true := by kernel_rfl
    exact Option.isSome_iff_exists.1 h1
  obtain ⟨i, hi, hd⟩ := h
  obtain ⟨ie, hie⟩ := h2
  exact sort_slice0 139 141 i ie hi hd (by kernel_rfl) hie 22 (fun _ => by kernel_rfl) p c lf la lb w
theorem calls_slice0 (p : Option Addr) (c : Nat) (lf : Fn) (la lb : Array Value) (w : World) :
    Calls Tryz.prog 66 #[.iface 68 (.slice p 0 c), .func lf la lb] w fun e w' => e = .returned (.tuple #[]) ∧ Below w.heap.size w w' := by
  have h : ∃ i, Tryz.prog.info? 68 = some i ∧ i.desc = .slice 23 := by
    have h1 : (Tryz.prog.info? 68).map (·.desc) = some (.slice 23) := by kernel_rfl
    obtain ⟨i, hi, hd⟩ := Option.map_eq_some_iff.1 h1; exact ⟨i, hi, hd⟩
  have h2 : ∃ i, Tryz.prog.info? 23 = some i := by
    have h1 : (Tryz.prog.info? 23).isSome = true := by kernel_rfl
    exact Option.isSome_iff_exists.1 h1
  obtain ⟨i, hi, hd⟩ := h
  obtain ⟨ie, hie⟩ := h2
  exact sort_slice0 68 23 i ie hi hd (by kernel_rfl) hie 25 (fun _ => by kernel_rfl) p c lf la lb w
end Go.Proofs.YtegdpagjloidnaaGreatDoor
