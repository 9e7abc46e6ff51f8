/- A look at a name that is not known: replica.take. -/
import Derived.Test.YtegdpagjloidnaaGreatDoorReply
namespace Go.Proofs.YtegdpagjloidnaaGreatDoor
open Go.RowKit Go.Conc

/-- What a look that comes first in its session meets. -/
structure Rdy (w : World) (R ca sa g cp tm vw : Nat) (me sn n : Int) (rest : Int × Int × Int) (rc sc gs : Array Value) : Prop where
  r : At w 0 R (.cells rc 113)
  r15 : rc[15]? = some (.pointer (some ⟨ca, 0, none⟩))
  r16 : rc[16]? = some (.pointer (some ⟨vw, 0, none⟩))
  r19 : rc[19]? = some (.map (some tm))
  r23 : rc[23]? = some (.slice none 0 0)
  tm : At w 0 tm (.map #[] 0)
  cs : CS w ca sa me sn rest
  s : At w 0 sa (.cells sc 185)
  h0 : sc[0]? = some (.int .i64 1)
  h1 : sc[1]? = some (.slice (some ⟨g, 0, none⟩) 1 cp)
  h66 : sc[66]? = some (.int .i64 0)
  h2 : sc[2]? = some (.int .i64 0)
  h3 : sc[3]? = some (.int .i64 0)
  h4 : sc[4]? = some (.int .i64 0)
  h5 : sc[5]? = some (.int .i64 0)
  gg : At w 0 g (.cells gs 3)
  g0 : gs[0]? = some (.int .i64 1)
  c1 : 1 ≤ cp
  c2 : 1 ≤ rest.2.2
  vv : ViewsAt w 0 vw me n
theorem ViewsAt.only {w w' : World} {lo a : Nat} {me n : Int} (h : ViewsAt w lo a me n) (ho : Only (fun _ => False) w w') : ViewsAt w' lo a me n := by
  obtain ⟨m, b, h1, h2, h3⟩ := h
  exact ⟨m, b, h1.only ho id, h2.only ho id, h3.only ho id⟩
theorem Rdy.only {w w' : World} {R ca sa g cp tm vw : Nat} {me sn n : Int} {rest : Int × Int × Int} {rc sc gs : Array Value} (h : Rdy w R ca sa g cp tm vw me sn n rest rc sc gs) (ho : Only (fun _ => False) w w') : Rdy w' R ca sa g cp tm vw me sn n rest rc sc gs :=
  { h with r := h.r.only ho id, tm := h.tm.only ho id, cs := h.cs.of_at fun ha _ => ha.only ho id, s := h.s.only ho id, gg := h.gg.only ho id, vv := h.vv.only ho }

set_option maxHeartbeats 4000000 in
set_option maxRecDepth 100000 in
theorem replica_take (w : World) (R ca sa g cp tm vw : Nat) (me sn n : Int) (rest : Int × Int × Int) (rc sc gs : Array Value) (h : Rdy w R ca sa g cp tm vw me sn n rest rc sc gs) :
    Calls Tryz.prog 72 #[.pointer (some ⟨R, 0, none⟩), .agg #[.int .i64 sn, .int .i64 1, .int .i64 11, .string ⟨#[107]⟩, .int .i64 0, .int .i64 0]] w fun e w' => e = .returned (.tuple #[]) ∧
      ∃ g2 c2, At w' 0 R (.cells (rc.setIfInBounds 23 (.slice (some ⟨g2, 0, none⟩) 1 c2)) 113) ∧ Only (fun k => k = R ∨ k = sa ∨ k = g) w w' := by
  have z := h.r.lt
  have H := Lib.hid h
  clear h
  have key : ∀ W : World, Below (w.heap.size + 1) (w.alloc (.cells #[.int .i64 sn, .int .i64 1, .int .i64 11, .string ⟨#[107]⟩, .int .i64 0, .int .i64 0] 156)) W →
      Only (fun _ => False) w W ∧ (∀ i, W.cell? ⟨R, i, none⟩ = rc[i]?) ∧ (∀ i, W.cell? ⟨w.heap.size, i, none⟩ = #[Value.int .i64 sn, .int .i64 1, .int .i64 11, .string ⟨#[107]⟩, .int .i64 0, .int .i64 0][i]?) ∧ w.heap.size < W.heap.size := by
    intro W hb
    have ho : Only (fun _ => False) w W := ((Only.refl _ w).alloc _).trans (Only.of_below hb (by rw [size_alloc']; exact Nat.le_refl _))
    have hB : At W 0 w.heap.size (.cells #[.int .i64 sn, .int .i64 1, .int .i64 11, .string ⟨#[107]⟩, .int .i64 0, .int .i64 0] 156) := (At.new' (Nat.zero_le _) rfl _).below hb (by omega)
    exact ⟨ho, row_cells (H.out.r.only ho id).2, row_cells hB.2, hB.lt⟩
  have KEY := Lib.hid key
  clear key
  go_enter Tryz.func72, Tryz.ntmps72
  go_wp2_with fail
  refine (good_look _).mono ?_
  rintro e w1 ⟨rfl, hb1⟩
  rw [size_alloc'] at hb1
  obtain ⟨o1, q1, b1, z1⟩ := KEY.out _ hb1
  have r16 := (q1 16).trans H.out.r16
  have B1 := Lib.hid (And.intro hb1 o1)
  clear hb1 o1 q1
  go_wp2_with fail
  refine (views_about0 vw 0 me n _ _ (H.out.only B1.out.2).vv).mono ?_
  rintro e w2 ⟨rfl, hb2⟩
  have hb2' := B1.out.1.trans (hb2.mono (by have := B1.out.1.size; rw [size_alloc'] at this; exact this))
  obtain ⟨o2, q2, b2, z2⟩ := KEY.out _ hb2'
  clear b1 z1 r16 q2 hb2 hb2'
  have O2 := Lib.hid o2
  clear o2
  go_wp2_with fail
  refine (replica_reply w2 R ca sa g cp tm me sn rest rc sc gs (H.out.only O2.out).r H.out.r15 H.out.r19 H.out.r23 (H.out.only O2.out).tm (H.out.only O2.out).cs (H.out.only O2.out).s H.out.h0 H.out.h1 H.out.h66 H.out.h2 H.out.h3 H.out.h4 H.out.h5 (H.out.only O2.out).gg H.out.g0 H.out.c1 H.out.c2).mono ?_
  rintro e w3 ⟨rfl, g2, c2, A3, O3⟩
  have HF := Lib.hid (And.intro A3 O3)
  clear A3 O3
  go_wp2_with fail
  exact bodyPost_ret (results_none rfl _ _ _) rfl ⟨rfl, g2, c2, HF.out.1, (O2.out.mono fun _ _ h => h.elim).trans HF.out.2⟩
end Go.Proofs.YtegdpagjloidnaaGreatDoor
