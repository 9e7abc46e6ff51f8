/- A call is replied to: replica.reply. -/
import Derived.Test.YtegdpagjloidnaaGreatDoorKeep
namespace Go.Proofs.YtegdpagjloidnaaGreatDoor
open Go.RowKit Go.Conc

theorem eq_call (a b : Int × Int) (w : World) : (Op.equal 23 (pairKey a) (pairKey b)).run Tryz.prog w = .ok (decide (a = b)) w := by
  obtain ⟨a, b'⟩ := a
  obtain ⟨c, d⟩ := b
  rw [pairKey, pairKey, Op.equal, show Op.maxDepth = 9998 + 1 + 1 from rfl, run_equalIn_struct w _ 23 _ _ (by kernel_rfl) (by kernel_rfl)]
  have hf : (Tryz.prog.fieldsOf 23).toList = [{ name := "Session", type := 3, offset := 0, embedded := false, tag := "", pkgPath := "", byteOffset := 0 }, { name := "Id", type := 3, offset := 1, embedded := false, tag := "", pkgPath := "", byteOffset := 8 }] := by kernel_rfl
  rw [hf]
  by_cases h : a = c <;> by_cases h' : b' = d <;> simp [Op.eqFields, go_sem, h, h', run_equalIn_int, Tryz.underlying3]
theorem check_call (m : Nat) (a : Int × Int) (e : Bool) (w : World) : (Instr.checkKey e (m + 1 + 1) 23 (pairKey a)).run Tryz.prog w = .ok () w := by
  rw [pairKey, Instr.checkKey]
  simp only [Sem.run_bind, run_underlying Tryz.underlying23, Result.andThen_ok]
  simp [go_sem, Instr.checkKey]
theorem call_law : KeyLaw Tryz.prog 23 pairKey :=
  keyLaw_struct Tryz.underlying23 eq_call (check_call 9998) (fun a => by simp [pairKey, Instr.sameBits])

/-- 'append(nil, reply)'. -/
theorem run_app_reply {W : World} {S : Nat} {x0 x1 x2 x3 : Int} (hS : W.heap[S]? = some (.cells #[.int .i64 x0, .int .i64 x1, .int .i64 x2, .int .i64 x3] 182)) :
    ∃ g c W', (Builtin.append_ #[59, 59] 59 #[.slice none 0 0, .slice (some ⟨S, 0, none⟩) 1 1]).run Tryz.prog W = .ok (.slice (some ⟨g, 0, none⟩) 1 c) W' ∧ W.grownBy W' none ∧ W'.ownsRow W.heap.size 182 4 (.slice (some ⟨g, 0, none⟩) 1 c) 1 [.int .i64 x0, .int .i64 x1, .int .i64 x2, .int .i64 x3] := by
  obtain ⟨i0, hi, hz0, hz1, hz2⟩ := info_parts infoRep
  obtain ⟨v', W', hr, ho, hg, _⟩ := run_append_own (P := Tryz.prog) W W.heap.size 59 59 182 i0 _ 4 32 Tryz.underlying59 hi hz0 hz1 hz2 rfl (by decide) (.slice none 0 0) 0 [] (World.ownsRow_nil _ _ _ _) ⟨S, 0, none⟩ 1 1 [.int .i64 x0, .int .i64 x1, .int .i64 x2, .int .i64 x3] (by simp) (by
    intro j u hj
    rw [addr_add', row_cells hS, ← Array.getElem?_toList, Nat.zero_add]
    exact hj) (by intro u hu; simp at hu; rcases hu with rfl | rfl | rfl | rfl <;> rfl) (by unfold maxLen; omega) (by omega) (Nat.le_refl _)
  obtain ⟨g, c, rfl⟩ := Joins.ownsRow_form ho (by omega)
  exact ⟨g, c, W', hr, hg, ho⟩

set_option maxHeartbeats 4000000 in
set_option maxRecDepth 100000 in
theorem replica_reply (w : World) (R ca sa g cp tm : Nat) (me sn : Int) (rest : Int × Int × Int) (rc sc gs : Array Value) (hR : At w 0 R (.cells rc 113)) (r15 : rc[15]? = some (.pointer (some ⟨ca, 0, none⟩))) (r19 : rc[19]? = some (.map (some tm))) (r23 : rc[23]? = some (.slice none 0 0)) (ht : At w 0 tm (.map #[] 0))
    (h : CS w ca sa me sn rest) (hs : At w 0 sa (.cells sc 185)) (h0 : sc[0]? = some (.int .i64 1)) (h1 : sc[1]? = some (.slice (some ⟨g, 0, none⟩) 1 cp)) (h66 : sc[66]? = some (.int .i64 0)) (h2 : sc[2]? = some (.int .i64 0)) (h3 : sc[3]? = some (.int .i64 0)) (h4 : sc[4]? = some (.int .i64 0)) (h5 : sc[5]? = some (.int .i64 0))
    (hg : At w 0 g (.cells gs 3)) (hg0 : gs[0]? = some (.int .i64 1)) (hc : 1 ≤ cp) (hr : 1 ≤ rest.2.2) :
    Calls Tryz.prog 114 #[.pointer (some ⟨R, 0, none⟩), .agg #[.int .i64 sn, .int .i64 1], .int .i64 100, .int .i64 0] w fun e w' => e = .returned (.tuple #[]) ∧
      ∃ g2 c2, At w' 0 R (.cells (rc.setIfInBounds 23 (.slice (some ⟨g2, 0, none⟩) 1 c2)) 113) ∧ Only (fun k => k = R ∨ k = sa ∨ k = g) w w' := by
  have q15 : w.cell? ⟨R, 15, none⟩ = some (.pointer (some ⟨ca, 0, none⟩)) := by rw [row_cells hR.2]; exact r15
  have q23 : w.cell? ⟨R, 23, none⟩ = some (.slice none 0 0) := by rw [row_cells hR.2]; exact r23
  have f := row_free hR.2
  have z := hR.lt
  have HS := Lib.hid (And.intro hR (And.intro r15 (And.intro r19 (And.intro r23 (And.intro ht (And.intro h (And.intro hs hg)))))))
  have HK := Lib.hid (And.intro h0 (And.intro h1 (And.intro h66 (And.intro h2 (And.intro h3 (And.intro h4 (And.intro h5 hg0)))))))
  clear hR r15 r19 r23 ht h hs hg h0 h1 h66 h2 h3 h4 h5 hg0
  go_enter Tryz.func114, Tryz.ntmps114
  go_wp2_with fail
  refine wp_world (fun W => At W 0 w.heap.size (.cells #[.int .i64 sn, .int .i64 1] 23) ∧ At W 0 (w.heap.size + 1) (.cells #[.int .i64 sn, .int .i64 1, .int .i64 100, .int .i64 0] 182) ∧ Only (fun _ => False) w W ∧ W.heap.size = w.heap.size + 2) ?_ ?_
  · exact ⟨(At.new' (Nat.zero_le _) rfl _).alloc _, At.new' (Nat.zero_le _) (by rw [size_alloc']) _, ((Only.refl _ w).alloc _).alloc _, by rw [size_alloc', size_alloc']⟩
  intro W hW
  clear q15 q23 f
  have AR := HS.out.1.only hW.2.2.1 id
  have q23 : W.cell? ⟨R, 23, none⟩ = some (.slice none 0 0) := by rw [row_cells AR.2]; exact HS.out.2.2.2.1
  have q1 := row_cells hW.1.2
  have q2 := row_cells hW.2.1.2
  have zW := Nat.le_of_eq hW.2.2.2.symm
  have z1 := AR.lt
  obtain ⟨g2, c2, W9, e9, g9, -⟩ := run_app_reply (W := W.drew.alloc (.cells #[.int .i64 sn, .int .i64 1, .int .i64 100, .int .i64 0] 182)) (S := W.heap.size) (own_new W.drew _ _ rfl)
  have O9 : Only (fun _ => False) W W9 := (((Only.refl _ W).drew).alloc _).grown g9 (by intro k hk; simp at hk)
  have A9 := AR.only O9 id
  have q93 : W9.cell? ⟨R, 23, none⟩ = some (.slice none 0 0) := by rw [row_cells A9.2]; exact HS.out.2.2.2.1
  have f9 := row_free A9.2
  have B9 := hW.1.only O9 id
  have C9 := hW.2.1.only O9 id
  have HE := Lib.hid e9
  have H9 := Lib.hid (And.intro A9 (And.intro B9 (And.intro C9 (hW.2.2.1.trans O9))))
  clear e9 A9 B9 C9 O9 g9 hW AR
  go_cut [] from 17 to 28 (fun wx => wx = W9.setCell ⟨R, 23, none⟩ (.slice (some ⟨g2, 0, none⟩) 1 c2))
  case first =>
    go_region_law (refine step_of_append rfl (.tmp 22) (.tmp 24) 59 59 rfl _ _ (by rfl) (by rfl) HE.out ?_)
    all_goals (go_wp2_with fail; go_meet)
    all_goals exact rfl
  case rest =>
    have HC := Lib.hid hcut
    clear hcut
    have AX := H9.out.1.setCell 23 (.slice (some ⟨g2, 0, none⟩) 1 c2)
    have BX := H9.out.2.1.setCell_ne (b := R) (by omega) 23 none (.slice (some ⟨g2, 0, none⟩) 1 c2)
    have CX := H9.out.2.2.1.setCell_ne (b := R) (by omega) 23 none (.slice (some ⟨g2, 0, none⟩) 1 c2)
    have OX : Only (· = R) w (W9.setCell ⟨R, 23, none⟩ (.slice (some ⟨g2, 0, none⟩) 1 c2)) := (H9.out.2.2.2.mono (q := (· = R)) fun _ _ h => h.elim).setCell (Or.inl rfl) _ _ _
    clear q1 q2 q23 q93 f9 zW z1
    rw [← HC.out] at AX BX CX OX
    clear HC H9 HE
    have q15 : wc.cell? ⟨R, 15, none⟩ = some (.pointer (some ⟨ca, 0, none⟩)) := by rw [row_cells AX.2, Array.getElem?_setIfInBounds_ne (by decide)]; exact HS.out.2.1
    have q19 : wc.cell? ⟨R, 19, none⟩ = some (.map (some tm)) := by rw [row_cells AX.2, Array.getElem?_setIfInBounds_ne (by decide)]; exact HS.out.2.2.1
    have qb := row_cells BX.2
    have qc := row_cells CX.2
    obtain ⟨hR, -, -, -, ht, hcs, hs, hg⟩ := HS.out
    have ns : ¬ sa = R := by rintro rfl; have := hs.2; rw [hR.2] at this; simp at this
    have ng : ¬ g = R := by rintro rfl; have := hg.2; rw [hR.2] at this; simp at this
    have nt : ¬ tm = R := by rintro rfl; have := ht.2; rw [hR.2] at this; simp at this
    have SX := hs.only OX ns
    have GX := hg.only OX ng
    have TX := ht.only OX nt
    have CSX := hcs.of_at (w' := wc) (fun {i o} ha hk => ha.only OX (by rintro rfl; have := ha.2; rw [hR.2] at this; simp at this; subst this; have := hk _ _ rfl; revert this; decide))
    have HX := Lib.hid (And.intro AX (And.intro BX (And.intro CX (And.intro OX (And.intro SX (And.intro GX (And.intro TX CSX)))))))
    clear AX BX CX OX hR ht hcs hs hg SX GX TX CSX
    go_wp2_with fail
    go_still_tail 5, (by kernel_rfl)
    change wpList _ _ _ _ _ wc.drew
    go_wp2_with fail
    refine (cache_end wc.drew ca sa g cp me sn 100 0 rest sc gs (HX.out.2.2.2.2.2.2.2.of_at fun ha _ => ha) (by exact HX.out.2.2.2.2.1) HK.out.1 HK.out.2.1 HK.out.2.2.1 HK.out.2.2.2.1 HK.out.2.2.2.2.1 HK.out.2.2.2.2.2.1 HK.out.2.2.2.2.2.2.1 (by exact HX.out.2.2.2.2.2.1) HK.out.2.2.2.2.2.2.2 hc hr).mono ?_
    rintro e w5 ⟨rfl, o5⟩
    obtain ⟨AX, BX, CX, OX, SX, GX, TX, -⟩ := HX.out
    have AX5 := At.only (w := wc.drew) AX o5 (by rintro (h | h); exact ns h.symm; exact ng h.symm)
    have BX5 := At.only (w := wc.drew) BX o5 (by
      rintro (h | h)
      · have := SX.2; rw [← h, BX.2] at this; simp at this
      · have := GX.2; rw [← h, BX.2] at this; simp at this)
    have TX5 := At.only (w := wc.drew) TX o5 (by
      rintro (h | h)
      · have := SX.2; rw [← h, TX.2] at this; simp at this
      · have := GX.2; rw [← h, TX.2] at this; simp at this)
    have OX5 : Only (fun k => k = R ∨ k = sa ∨ k = g) w w5 := ((OX.mono (q := fun k => k = R ∨ k = sa ∨ k = g) (fun _ _ h => Or.inl h)).drew).trans (o5.mono fun _ _ h => Or.inr h)
    clear q15 q19 qb qc
    have q19 : w5.cell? ⟨R, 19, none⟩ = some (.map (some tm)) := by rw [row_cells AX5.2, Array.getElem?_setIfInBounds_ne (by decide)]; exact HS.out.2.2.1
    have qb := row_cells BX5.2
    have hl : (Instr.lookup 105 (.map (some tm)) (pairKey (sn, 1)) true).run Tryz.prog w5.drew = .ok (.tuple #[.int .i64 0, .bool false]) w5.drew := by
      have := run_lookup_ents_ok (P := Tryz.prog) (t := 105) (e := 3) (w := w5.drew) (z := .int .i64 0) call_law Tryz.underlying105 (run_zero_of infoI64' w5.drew) (show w5.drew.heap[tm]? = _ from TX5.2) (by rfl : Ents pairKey ([] : List ((Int × Int) × Value)) _) (sn, 1)
      rw [this]; rfl
    unfold pairKey at hl
    have HF := Lib.hid (And.intro AX5 OX5)
    clear AX BX CX OX SX GX TX HX AX5 BX5 TX5 OX5 o5
    go_wp2_with fail
    go_region
    go_wp2_with fail
    go_end0
    exact ⟨rfl, g2, c2, HF.out.1, HF.out.2.drew⟩
end Go.Proofs.YtegdpagjloidnaaGreatDoor
