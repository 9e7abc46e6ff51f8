/- slices.Clone of bytes. -/
import Derived.Test.YtegdpagjloidnaaGreatDoorSigned
import Derived.Lib.SliceRun
namespace Go.Proofs.YtegdpagjloidnaaGreatDoor
open Go.RowKit Go.Conc

/-- An append whose run is known, at a plain list. -/
theorem wpList_of_append {P : Program} {ops : Array Oper} {rest : List Oper} {o : Oper} {a : Act} {w : World} {Q : Exit → Act → World → Prop} (hgd : o.guard = none) (s x : Operand) (t u : TypeId)
    (ho : o.op = .call { callee := .builtin .append, args := #[s, x], argTypes := #[t, u] }) (v y : Value) (hs : a.eval s = v) (hx : a.eval x = y) {v' : Value} {w' : World}
    (hr : (Builtin.append_ #[t, u] o.type #[v, y]).run P w = .ok v' w') (h : wpList P ops Q rest (a.put o.dst v') w') : wpList P ops Q (o :: rest) a w := by
  refine wpList_plain hgd fun K hK => ?_
  unfold Oper.wp execOp
  simp only [ho, resolve, invoke, builtin, Sem.run_bind, Sem.run_pure, Result.andThen_ok, List.map_toArray, List.map_cons, List.map_nil, hs, hx, hr]
  exact hK _ _ h

set_option maxHeartbeats 1000000 in
set_option maxRecDepth 100000 in
theorem clone_bytes (dv : Value) (bs : List UInt8) (w : World) (hd : Reads w dv bs) (hl : bs.length ≤ 100000) :
    Calls Tryz.prog 30 #[dv] w fun e w' => ∃ v, e = .returned v ∧ w'.ownsRow w.heap.size 5 1 v bs.length (Lib.byteCells bs) ∧ Below w.heap.size w w' := by
  by_cases hnil : dv = .slice none 0 0
  · subst hnil
    have hb : bs = [] := by rcases hd with ⟨h, _⟩ | ⟨b, off, cap, h, _⟩; exact h; simp at h
    subst hb
    clear hd
    have q22 : ∀ (w : World) (a : Option Addr) (n c n' c' : Nat), (binOp .eql 26 (.slice a n c) (.slice none n' c')).run Tryz.prog w = .ok (.bool a.isNone) w := fun w a n c n' c' => Lib.run_eql_slice_nil w _ _ a n c n' c' Tryz.underlying26
    go_enter Tryz.func30, Tryz.ntmps30
    go_wp2
    go_ret
    exact ⟨_, rfl, World.ownsRow_nil _ _ _ _, Below.refl _ _⟩
  · have h0 := owns_lit w #[] 5 (by simp)
    have hr0 := run_app_data (W := w.alloc (.cells #[] 5)) (k := 0) (bs := []) h0 (hd.below (B := w.heap.size) ((Below.refl _ _).alloc (Nat.le_refl _) _) (Nat.le_refl _)) (by omega) (by omega) (by simp)
    obtain ⟨v1, W1, hr, ho, hg⟩ := hr0
    have hb1 : Below w.heap.size w W1 := ((Below.refl _ _).alloc (Nat.le_refl _) _).grown hg (by simp) (fun k hk => (h0.lt k hk).1)
    obtain ⟨b, off, n, cap, rfl⟩ : ∃ b off n cap, dv = .slice (some ⟨b, off, none⟩) n cap := by
      rcases hd with ⟨_, h⟩ | ⟨b, off, cap, h, _⟩
      · exact absurd h hnil
      · exact ⟨b, off, _, cap, h⟩
    have HR := Lib.hid hr
    have HO := Lib.hid (And.intro ho hb1)
    clear hd hnil h0 hr ho hg hb1
    have q22 : ∀ (w : World) (a : Option Addr) (n c n' c' : Nat), (binOp .eql 26 (.slice a n c) (.slice none n' c')).run Tryz.prog w = .ok (.bool a.isNone) w := fun w a n c n' c' => Lib.run_eql_slice_nil w _ _ a n c n' c' Tryz.underlying26
    go_enter Tryz.func30, Tryz.ntmps30
    go_wp2_with (at_builtin; refine wpList_of_append rfl _ _ _ _ rfl _ _ rfl rfl HR.out ?_)
    go_ret
    refine ⟨_, rfl, ?_, HO.out.2⟩
    simpa using HO.out.1
end Go.Proofs.YtegdpagjloidnaaGreatDoor
