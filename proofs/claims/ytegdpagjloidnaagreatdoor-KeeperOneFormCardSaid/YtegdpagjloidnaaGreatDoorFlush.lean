/- replica.flush and replica.done where nothing is to go and no counter is known. -/
import Derived.Test.YtegdpagjloidnaaGreatDoorOut
namespace Go.Proofs.YtegdpagjloidnaaGreatDoor
open Go.RowKit Go.Conc

theorem LinkAt.only {w w' : World} {lo a : Nat} {me peer win res : Int} (h : LinkAt w lo a me peer win res) (ho : Only (fun _ => False) w w') : LinkAt w' lo a me peer win res := by
  obtain ⟨c, m, h1, h2, h3⟩ := h; exact ⟨c, m, h1.only ho id, h2.only ho id, h3.only ho id⟩
set_option maxHeartbeats 4000000 in
set_option maxRecDepth 100000 in
theorem replica_flush (w : World) (R lk la ot : Nat) (rc : Array Value) (en : MapEntry) (clock : Nat) (me peer win res : Int) (h : OneLink w R lk la rc en clock peer) (r12 : rc[12]? = some (.map (some ot))) (ho : At w 0 ot (.map #[] 0)) (hl : LinkAt w 0 la me peer win res) :
    Calls Tryz.prog 122 #[.pointer (some ⟨R, 0, none⟩)] w fun e w' => e = .returned (.tuple #[]) ∧ Only (fun _ => False) w w' := by
  have H := Lib.hid (And.intro h (And.intro r12 (And.intro ho hl)))
  clear h r12 ho hl
  go_enter Tryz.func122, Tryz.ntmps122
  go_wp2_with fail
  refine (replica_peers _ R lk la rc en clock peer H.out.1).mono ?_
  rintro e w1 ⟨g, c, rfl, cg, o1⟩
  have h1 := H.out.1.only o1
  have q11 : w1.cell? ⟨R, 11, none⟩ = some (.map (some lk)) := by rw [row_cells h1.r.2]; exact h1.r11
  have q12 : w1.cell? ⟨R, 12, none⟩ = some (.map (some ot)) := by rw [row_cells h1.r.2]; exact H.out.2.1
  have hlk : (Instr.lookup 102 (.map (some lk)) (.int .i64 peer) false).run Tryz.prog w1 = .ok (.pointer (some ⟨la, 0, none⟩)) w1 := by
    have := run_lookup_ents (P := Tryz.prog) (t := 102) (e := 115) (w := w1) (z := .pointer none) link_law Tryz.underlying102 (run_zero_of infoLinkP w1) h1.m.2 (l := [(peer, .pointer (some ⟨la, 0, none⟩))]) (by simp [Ents, h1.k, h1.v]) peer
    rw [this]; simp [findIx]
  have hou : (Instr.lookup 103 (.map (some ot)) (.int .i64 peer) false).run Tryz.prog w1 = .ok (.slice none 0 0) w1 := run_lookup_ents (P := Tryz.prog) (t := 103) (e := 160) (w := w1) (z := .slice none 0 0) link_law Tryz.underlying103 (run_zero_of infoMsgs w1) (H.out.2.2.1.only o1 id).2 (by rfl : Ents (Value.int .i64) ([] : List (Int × Value)) _) peer
  have O1 := Lib.hid o1
  clear o1 h1
  go_wp2_with fail
  refine wp_loop_rounds 2 ?_; rw [rounds_succ]
  go_wp2_with fail
  refine wp_loop_rounds 1 ?_; rw [rounds_succ]
  go_wp2_with fail
  refine (link_out0 w1 0 la me peer win res (H.out.2.2.2.only O1.out)).mono ?_
  rintro e w2 ⟨rfl, o2⟩
  have O2 := Lib.hid (O1.out.trans o2)
  clear o2 cg q11 q12 hlk hou
  go_wp2_with fail
  refine wp_loop_rounds 1 ?_; rw [rounds_succ]
  go_wp2_with fail
  rw [rounds_succ]
  go_wp2_with fail
  first | go_end0 | refine bodyPost_ret (results_none rfl _ _ _) rfl ?_
  exact ⟨rfl, O2.out⟩
end Go.Proofs.YtegdpagjloidnaaGreatDoor
