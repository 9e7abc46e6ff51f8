/- KeeperOneForm: the walk. -/
import Derived.Test.YtegdpagjloidnaaGreatDoorLend
import Derived.Test.YtegdpagjloidnaaGreatDoorLaw
import Derived.Laws.StructEq
namespace Go.Proofs.YtegdpagjloidnaaGreatDoor
open Go.RowKit Go.Conc

theorem enc_two (x : Inp) (dv : Value) (w : World) (hd : Reads w dv x.data) (hl : x.data.length ≤ 65536) (hn : x.name.size ≤ 65536) (i1 : I64 x.ses) (i2 : I64 x.id) (i3 : I64 x.ok) (i4 : I64 x.a) (i5 : I64 x.b) :
    Calls Tryz.prog 8 #[.agg (x.vals dv)] w fun e w' => ∃ a c, e = .returned (.tuple #[.slice a x.enc.1.length c, .int .i64 x.enc.2]) ∧ w'.ownsRow w.heap.size 5 1 (.slice a x.enc.1.length c) x.enc.1.length (Lib.byteCells x.enc.1) ∧ Below w.heap.size w w' := by
  refine (keeper_encode x dv w hd hl hn i1 i2 i3 i4 i5).mono ?_
  rintro e w' ⟨v, rfl, ho, hb⟩
  obtain ⟨a, c, rfl⟩ := own_any ho
  exact ⟨a, c, rfl, ho, hb⟩
theorem dec_two (dv : Value) (bs : List UInt8) (w : World) (hd : ReadsA w dv bs) (hb : bs.length ≤ 100000) :
    Calls Tryz.prog 14 #[dv] w fun e w' => ∃ a c, e = .returned (.tuple #[.agg ((dec bs).1.vals (.slice a (dec bs).1.data.length c)), .int .i64 (dec bs).2]) ∧ Reads w' (.slice a (dec bs).1.data.length c) (dec bs).1.data ∧ Below w.heap.size w w' := by
  rcases hd with hd | ⟨rfl, a, rfl⟩
  rotate_right
  · refine (decode_empty a w).mono ?_
    rintro e w' ⟨rfl, hb⟩
    exact ⟨none, 0, rfl, Or.inl ⟨rfl, rfl⟩, hb⟩
  refine (keeper_decode dv bs w hd hb).mono ?_
  rintro e w' ⟨v, rfl, ho, hb⟩
  obtain ⟨a, c, rfl⟩ := own_any ho
  exact ⟨a, c, rfl, reads_own (by exact ho), hb⟩

set_option maxHeartbeats 4000000 in
set_option maxRecDepth 100000 in
/-- Too long: the statement asks nothing. -/
theorem one_long (x : Inp) (ao : Option Addr) (dn cap : Nat) (bo : Option Addr) (n bc : Nat) (w : World) (h : 65536 < dn ∨ 65536 < x.name.size ∨ 65536 < n) :
    Calls Tryz.prog 5 #[.agg (x.vals (.slice ao dn cap)), .slice bo n bc] w fun e w' => e = .returned (.bool true) ∧ Below w.heap.size w w' := by
  unfold Inp.vals
  by_cases h1 : 65536 < dn
  · have h1' : (65536 : Int) < (dn : Int) := by omega
    clear h
    go_enter Tryz.func5, Tryz.ntmps5
    go_wp2
    go_ret
    exact ⟨rfl, (Below.refl _ _).alloc (Nat.le_refl _) _⟩
  · have h1' : ¬ (65536 : Int) < (dn : Int) := by omega
    by_cases h2 : 65536 < x.name.size
    · have h2' : (65536 : Int) < (x.name.size : Int) := by omega
      clear h
      go_enter Tryz.func5, Tryz.ntmps5
      go_wp2
      go_ret
      exact ⟨rfl, (Below.refl _ _).alloc (Nat.le_refl _) _⟩
    · have h2' : ¬ (65536 : Int) < (x.name.size : Int) := by omega
      have h3' : (65536 : Int) < (n : Int) := by omega
      clear h
      go_enter Tryz.func5, Tryz.ntmps5
      go_wp2
      go_ret
      exact ⟨rfl, (Below.refl _ _).alloc (Nat.le_refl _) _⟩

set_option maxHeartbeats 4000000 in
set_option maxRecDepth 100000 in
theorem one_short (x : Inp) (ao : Option Addr) (dn cap : Nat) (bo : Option Addr) (n bc : Nat) (bs : List UInt8) (w : World) (hd : ReadsA w (.slice ao dn cap) x.data) (hb : ReadsA w (.slice bo n bc) bs) (h1 : dn ≤ 65536) (h2 : x.name.size ≤ 65536) (h3 : n ≤ 65536)
    (i1 : I64 x.ses) (i2 : I64 x.id) (i3 : I64 x.ok) (i4 : I64 x.a) (i5 : I64 x.b) :
    Calls Tryz.prog 5 #[.agg (x.vals (.slice ao dn cap)), .slice bo n bc] w fun e w' => e = .returned (.bool true) ∧ Below w.heap.size w w' := by
  have HI := Lib.hid (And.intro i1 (And.intro i2 (And.intro i3 (And.intro i4 i5))))
  have HD := Lib.hid (And.intro hd hb)
  have hdl : x.data.length = dn := hd.len
  have hbl : bs.length = n := hb.len
  have HL := Lib.hid (And.intro hdl hbl)
  have h1' : ¬ (65536 : Int) < (dn : Int) := by omega
  have h2' : ¬ (65536 : Int) < (x.name.size : Int) := by omega
  have h3' : ¬ (65536 : Int) < (n : Int) := by omega
  have HZ := Lib.hid (And.intro h1 (And.intro h2 h3))
  clear i1 i2 i3 i4 i5 hd hb hdl hbl h1 h2 h3
  unfold Inp.vals
  go_enter Tryz.func5, Tryz.ntmps5
  go_wp2_with (go_at_call 6; refine (alive_true _).mono ?_; rintro e w1 ⟨rfl, hb1⟩)
  have hB1 : Below w.heap.size w w1 := ((Below.refl _ _).alloc (Nat.le_refl _) _).trans (hb1.mono (by rw [size_alloc']; omega))
  have hX1 : At w1 w.heap.size w.heap.size (.cells (x.vals (.slice ao dn cap)) 28) := (At.new (Nat.le_refl _) _).below hb1 (by rw [size_alloc']; omega)
  have H1 := Lib.hid (And.intro hB1 hX1)
  clear hb1 hB1 hX1
  go_cut [6, 7] from 32 to 44 (fun v6 v7 wx => ∃ a c, v6 = .slice a x.enc.1.length c ∧ v7 = .int .i64 x.enc.2 ∧ wx.ownsRow w.heap.size 5 1 v6 x.enc.1.length (Lib.byteCells x.enc.1) ∧ Below w.heap.size w wx ∧ At wx w.heap.size w.heap.size (.cells (x.vals (.slice ao dn cap)) 28))
  case first =>
    have hz1 := H1.out.1.size
    have q := row_cells H1.out.2.2
    unfold Inp.vals at q
    have CL : ∀ W, Below w1.heap.size w1 W → Calls Tryz.prog 7 #[.slice ao dn cap] W fun e w' => ∃ g c, e = .returned (.slice (some ⟨g, 0, none⟩) (dn + 3) c) ∧ dn + 3 ≤ c ∧ w.heap.size < w'.heap.size ∧ Reads w' (.slice (some ⟨g, 0, none⟩) dn c) x.data ∧ Below w1.heap.size w1 w' := by
      intro W hW
      have hWw : Below w.heap.size w W := H1.out.1.trans (hW.mono hz1)
      refine (lend_cut _ x.data dn HL.out.1 W (HD.out.1.below hWw (Nat.le_refl _)) (by have := HL.out.1; have := HZ.out.1; omega)).mono ?_
      rintro e w' ⟨g, c, rfl, h1, h2, _, h4⟩
      have := hW.size; have := h4.size; have := H1.out.2.lt
      exact ⟨g, c, rfl, h1, by omega, h2, hW.trans (h4.mono hW.size)⟩
    have CP : ∀ W g c, Below w1.heap.size w1 W → Calls Tryz.prog 9 #[.agg (x.vals (.slice ao dn cap)), .slice (some ⟨g, 0, none⟩) dn c] W fun e w' => e = .returned (.agg (x.vals (.slice (some ⟨g, 0, none⟩) dn c))) ∧ Below w1.heap.size w1 w' ∧ Below W.heap.size W w' := by
      intro W g c hW
      refine (program_input x _ _ dn c W).mono ?_
      rintro e w' ⟨rfl, h4⟩
      exact ⟨rfl, hW.trans (h4.mono hW.size), h4⟩
    have CE : ∀ W g c, Below w1.heap.size w1 W → Reads W (.slice (some ⟨g, 0, none⟩) dn c) x.data → Calls Tryz.prog 8 #[.agg (x.vals (.slice (some ⟨g, 0, none⟩) dn c))] W fun e w' => ∃ a c, e = .returned (.tuple #[.slice a x.enc.1.length c, .int .i64 x.enc.2]) ∧ w'.ownsRow w.heap.size 5 1 (.slice a x.enc.1.length c) x.enc.1.length (Lib.byteCells x.enc.1) ∧ Below w1.heap.size w1 w' := by
      intro W g c hW hr
      refine (enc_two x _ W hr (by have := HL.out.1; have := HZ.out.1; omega) HZ.out.2.1 HI.out.1 HI.out.2.1 HI.out.2.2.1 HI.out.2.2.2.1 HI.out.2.2.2.2).mono ?_
      rintro e w' ⟨a, c, rfl, h1, h2⟩
      have := hW.size
      exact ⟨a, c, rfl, Joins.ownsRow_le h1 (by omega), hW.trans (h2.mono hW.size)⟩
    unfold Inp.vals at CP CE
    have HCL := Lib.hid CL
    have HCP := Lib.hid CP
    have HCE := Lib.hid CE
    clear CL CP CE
    have hdn0 : (0 : Int) ≤ (dn : Int) := by omega
    go_wp2_with fail
    go_region_with (first
      | (go_at_call 7; refine (HCL.out _ (Below.refl _ _).drew).mono ?_; rintro e w2 ⟨g2, c2, rfl, hc2, hz2, hr2, hb2⟩; have q2 := row_cells (H1.out.2.below hb2 H1.out.2.lt).2; unfold Inp.vals at q2; have H2 := Lib.hid (And.intro hr2 hb2); clear hr2 hb2)
      | (go_at_call 9; refine (HCP.out _ _ _ H2.out.2).mono ?_; rintro e w3 ⟨rfl, hb3, hb3'⟩; have H3 := Lib.hid (And.intro hb3 hb3'); clear hb3 hb3')
      | (go_at_call 8; refine (HCE.out _ _ _ H3.out.1 (H2.out.1.below H3.out.2 (Nat.le_refl _))).mono ?_; rintro e w4 ⟨a4, c4, rfl, ho4, hb4⟩; have H4 := Lib.hid (And.intro ho4 hb4); clear ho4 hb4))
    all_goals
      go_wp2_with fail
      go_meet
      exact ⟨a4, c4, rfl, rfl, H4.out.1, H1.out.1.trans (H4.out.2.mono hz1), H1.out.2.below H4.out.2 H1.out.2.lt⟩
  case rest =>
    obtain ⟨a6, c6, rfl, rfl, ho, hB, hX⟩ := hcut
    have H6 := Lib.hid (And.intro ho (And.intro hB hX))
    clear ho hB hX
    go_upto_if 46 with (fail)

    go_cut [8, 9] from 45 to 96 (fun _ _ wx => Below w.heap.size w wx)
    case first =>
      by_cases he : x.enc.2 = 0
      · have hlaw := dec_enc x HI.out.1 HI.out.2.1 HI.out.2.2.1 HI.out.2.2.2.1 HI.out.2.2.2.2 he
        have hl1 : ¬ (x.enc.1.length : Int) < 1 := by have := hlaw.2.1; omega
        have hl2 : ¬ (8192 : Int) < (x.enc.1.length : Int) := by have := hlaw.2.2; omega
        have he' : (x.enc.2 == 0) = true := by rw [he]; rfl
        have CD : Calls Tryz.prog 14 #[.slice a6 x.enc.1.length c6] wc fun e w' => ∃ a c, e = .returned (.tuple #[.agg (x.vals (.slice a dn c)), .int .i64 0]) ∧ Reads w' (.slice a dn c) x.data ∧ Below wc.heap.size wc w' := by
          have h := dec_two (.slice a6 x.enc.1.length c6) x.enc.1 wc (Or.inl (reads_own (by exact H6.out.1))) (by omega)
          rw [hlaw.1] at h
          have := HL.out.1
          subst this
          exact h
        have HCD := Lib.hid CD
        clear CD hlaw he
        go_wp2_with fail
        refine HCD.out.mono ?_
        rintro e w2 ⟨a2, c2, rfl, hr2, hb2⟩
        have hB2 : Below w.heap.size w w2 := H6.out.2.1.trans (hb2.mono H6.out.2.1.size)
        have hX2 : At w2 w.heap.size w.heap.size (.cells (x.vals (.slice ao dn cap)) 28) := H6.out.2.2.below hb2 H6.out.2.2.lt
        have q := row_cells (hX2.alloc (.cells (x.vals (.slice a2 dn c2)) 34)).2
        have r1 := run_string_of (hr2.below ((Below.refl _ _).alloc (Nat.le_refl _) (.cells (x.vals (.slice a2 dn c2)) 34)) (Nat.le_refl _))
        have r2 := run_string_ofA (HD.out.1.below (hB2.alloc hB2.size (.cells (x.vals (.slice a2 dn c2)) 34)) (Nat.le_refl _))
        have H2 := Lib.hid (And.intro hB2 hX2)
        clear hr2 hb2 hB2 hX2
        unfold Inp.vals at q r1 r2 ⊢
        go_wp2_with fail
        go_meet
        exact H2.out.1.alloc H2.out.1.size _
      · have hnil := enc_err x he
        have he' : (x.enc.2 == 0) = false := by simpa using he
        have hl : ((x.enc.1.length : Int) != 0) = false := by rw [hnil]; rfl
        clear hnil he
        go_wp2_with fail
        go_meet
        exact H6.out.2.1
    case rest =>
      have HB := Lib.hid hcut
      clear hcut
      have hRb : ReadsA wc (.slice bo n bc) bs := HD.out.2.below HB.out (Nat.le_refl _)
      by_cases he : (dec bs).2 = 0
      · have HG := Lib.hid (enc_dec bs he)
        have HY := Lib.hid (dec_bound bs)
        have CD : Calls Tryz.prog 14 #[.slice bo n bc] wc fun e w' => ∃ a c, e = .returned (.tuple #[.agg ((dec bs).1.vals (.slice a (dec bs).1.data.length c)), .int .i64 0]) ∧ Reads w' (.slice a (dec bs).1.data.length c) (dec bs).1.data ∧ Below wc.heap.size wc w' := by
          have h := dec_two _ bs _ hRb (by have := HL.out.2; have := HZ.out.2.2; omega)
          rw [he] at h
          exact h
        have HCD := Lib.hid CD
        clear CD hRb he
        generalize (dec bs).1 = y at *
        go_wp2_with fail
        refine HCD.out.mono ?_
        rintro e w2 ⟨a2, c2, rfl, hr2, hb2⟩
        have hB2 : Below w.heap.size w w2 := HB.out.trans (hb2.mono HB.out.size)
        have H2 := Lib.hid (And.intro hr2 hB2)
        clear hr2 hb2 hB2
        unfold Inp.vals
        have CE : Calls Tryz.prog 8 #[.agg (y.vals (.slice a2 y.data.length c2))] (w2.alloc (.cells (y.vals (.slice a2 y.data.length c2)) 34)) fun e w' => ∃ a c, e = .returned (.tuple #[.slice a n c, .int .i64 0]) ∧ Reads w' (.slice a n c) bs ∧ Below w.heap.size w w' := by
          have hBa := H2.out.2.alloc H2.out.2.size (.cells (y.vals (.slice a2 y.data.length c2)) 34)
          refine (enc_two y _ _ (H2.out.1.below ((Below.refl _ _).alloc (Nat.le_refl _) _) (Nat.le_refl _)) HY.out.1 HY.out.2 HG.out.2.1 HG.out.2.2.1 HG.out.2.2.2.1 HG.out.2.2.2.2.1 HG.out.2.2.2.2.2).mono ?_
          rintro e w' ⟨a, c, rfl, ho, hb⟩
          rw [HG.out.1] at ho ⊢
          have hbl := HL.out.2
          subst hbl
          exact ⟨a, c, rfl, reads_own (by exact ho), hBa.trans (hb.mono hBa.size)⟩
        unfold Inp.vals at CE
        have HCE := Lib.hid CE
        clear CE
        go_wp2_with fail
        refine HCE.out.mono ?_
        rintro e w3 ⟨a3, c3, rfl, hr3, hb3⟩
        have r1 := run_string_of hr3
        have r2 := run_string_ofA (HD.out.2.below hb3 (Nat.le_refl _))
        have H3 := Lib.hid hb3
        clear hr3 hb3
        go_wp2_with fail
        go_ret
        exact ⟨by simp, H3.out⟩
      · have CD : Calls Tryz.prog 14 #[.slice bo n bc] wc fun e w' => ∃ a c, e = .returned (.tuple #[.agg (Inp.zero.vals (.slice a 0 c)), .int .i64 220]) ∧ Below wc.heap.size wc w' := by
          refine (dec_two _ bs _ hRb (by have := HL.out.2; have := HZ.out.2.2; omega)).mono ?_
          rw [dec_err bs he]
          rintro e w' ⟨a, c, rfl, _, h⟩
          exact ⟨a, c, rfl, h⟩
        have HCD := Lib.hid CD
        clear CD hRb he
        go_wp2_with fail
        refine HCD.out.mono ?_
        rintro e w2 ⟨a2, c2, rfl, hb2⟩
        have H2 := Lib.hid (HB.out.trans (hb2.mono HB.out.size))
        clear hb2
        unfold Inp.vals Inp.zero
        go_wp2_with fail
        go_ret
        exact ⟨rfl, H2.out.alloc H2.out.size _⟩
end Go.Proofs.YtegdpagjloidnaaGreatDoor
