/- keeper.Encode. -/
import Derived.Test.YtegdpagjloidnaaGreatDoorEncode
namespace Go.Proofs.YtegdpagjloidnaaGreatDoor
open Go.RowKit Go.Conc

set_option maxHeartbeats 4000000 in
set_option maxRecDepth 100000 in
theorem keeper_encode (x : Inp) (dv : Value) (w : World) (hd : Reads w dv x.data) (hl : x.data.length ≤ 65536) (hn : x.name.size ≤ 65536) (i1 : I64 x.ses) (i2 : I64 x.id) (i3 : I64 x.ok) (i4 : I64 x.a) (i5 : I64 x.b) :
    Calls Tryz.prog 8 #[.agg (x.vals dv)] w fun e w' => ∃ v, e = .returned (.tuple #[v, .int .i64 x.enc.2]) ∧ w'.ownsRow w.heap.size 5 1 v x.enc.1.length (Lib.byteCells x.enc.1) ∧ Below w.heap.size w w' := by
  obtain ⟨ao, dn, cap, rfl, hdn⟩ : ∃ ao n cap, dv = .slice ao n cap ∧ x.data.length = n := by
    rcases hd with ⟨h, rfl⟩ | ⟨b, off, cap, rfl, _, _⟩
    · exact ⟨_, _, _, rfl, by rw [h]; rfl⟩
    · exact ⟨_, _, _, rfl, rfl⟩
  have hdl : dn ≤ 65536 := by omega
  have HD := Lib.hid (And.intro hd hdn)
  clear hd hdn hl
  have hI := Lib.hid (And.intro i1 (And.intro i2 (And.intro i3 (And.intro i4 i5))))
  clear i1 i2 i3 i4 i5
  cases his : x.is with
  | false =>
    have he : x.enc = ([], 220) := by unfold Inp.enc; rw [if_pos his]
    rw [he]
    unfold Inp.vals
    go_enter Tryz.func8, Tryz.ntmps8
    go_wp2_with (go_at_call 23; refine (input_is x ao dn cap HD.out.2 _).mono ?_; rintro e w1 ⟨rfl, rfl⟩)
    go_ret2
    exact ⟨_, rfl, World.ownsRow_nil _ _ _ _, ((Below.refl _ _).alloc (Nat.le_refl _) _).alloc (by simp) _⟩
  | true =>
    by_cases hbig : 8192 < dn + x.name.size
    · have he : x.enc = ([], 2) := by unfold Inp.enc; rw [if_neg (by simp [his]), if_pos (by have := HD.out.2; omega)]
      rw [he]
      unfold Inp.vals
      have hbig' : (8192 : Int) < (dn : Int) + (x.name.size : Int) := by omega
      go_enter Tryz.func8, Tryz.ntmps8
      go_wp2_with (go_at_call 23; refine (input_is x ao dn cap HD.out.2 _).mono ?_; rintro e w1 ⟨rfl, rfl⟩)
      go_ret2
      exact ⟨_, rfl, World.ownsRow_nil _ _ _ _, ((Below.refl _ _).alloc (Nat.le_refl _) _).alloc (by simp) _⟩
    · have hbig' : ¬ (8192 : Int) < (dn : Int) + (x.name.size : Int) := by omega
      have HIS := Lib.hid his
      clear his
      unfold Inp.vals
      go_enter Tryz.func8, Tryz.ntmps8
      go_upto_if 25 with (go_at_call 23; refine (input_is x ao dn cap HD.out.2 _).mono ?_; rintro e w1 ⟨rfl, rfl⟩; rw [HIS.out])
      go_cut [4, 6] from 25 to 37 (fun v4 _ wx => wx.ownsRow w.heap.size 5 1 v4 x.head.length (Lib.byteCells x.head) ∧ Below w.heap.size w wx ∧ At wx w.heap.size w.heap.size (.cells (x.vals (.slice ao dn cap)) 34))
      case first =>
        by_cases hk1 : x.kind = 1
        · have hk1' : (x.kind == 1) = true := by simp [hk1]
          have HK1 := Lib.hid hk1
          clear hk1
          go_wp2_with (go_at_call 24; refine (input_numbers _ _).mono ?_; rintro e w1 ⟨rfl, rfl⟩)
          refine wp_world (fun W => W.ownsRow w.heap.size 5 1 (.slice (some ⟨w.heap.size + 1 + 1, 0, none⟩) 1 1) 1 (Lib.byteCells (x.pre 0)) ∧ Below w.heap.size w W ∧ At W w.heap.size w.heap.size (.cells (x.vals (.slice ao dn cap)) 34) ∧ At W w.heap.size (w.heap.size + 1 + 1 + 1) (.cells (numRow w.heap.size) 75)) ?_ ?_
          · have h1 := owns_lit ((w.alloc (.cells (x.vals (.slice ao dn cap)) 34)).alloc (.cells (x.vals (.slice ao dn cap)) 34)) #[.int .u8 (x.kind % 256)] 5 (by simp)
            rw [size_alloc', size_alloc'] at h1
            refine ⟨Joins.ownsRow_le (World.ownsRow.drew (World.ownsRow.alloc (base := w.heap.size + 1 + 1) (by rw [x.pre_zero, kind_cell]; exact h1) _)) (by omega), Below.drew ((((Below.refl _ _).alloc (Nat.le_refl _) _).alloc (by simp) _ |>.alloc (by simp; omega) _).alloc (by simp; omega) _), ((((At.new (Nat.le_refl _) _).alloc _).alloc _).alloc _).drew, (At.new' (by simp; omega) (by simp) _).drew⟩
          intro W hW
          generalize w.heap.size + 1 + 1 + 1 = Y at *
          generalize w.heap.size + 1 + 1 = Z at *
          go_loopw [4, 28] (fun v4 v28 wr => ∃ (k : Nat), v28 = .int .i64 k ∧ k ≤ 5 ∧ wr.ownsRow w.heap.size 5 1 v4 (x.pre k).length (Lib.byteCells (x.pre k)) ∧ Below w.heap.size w wr ∧ At wr w.heap.size w.heap.size (.cells (x.vals (.slice ao dn cap)) 34) ∧ At wr w.heap.size Y (.cells (numRow w.heap.size) 75)) (fun _ v _ => 6 - (intOf v).toNat)
          case atStart => exact ⟨0, rfl, by omega, hW.1, hW.2.1, hW.2.2.1, hW.2.2.2⟩
          case round =>
            obtain ⟨k, rfl, hk, hown, hbel, hat, hay⟩ := hrel
            have hsz := hbel.size
            clear hW
            by_cases hk5 : k < 5
            · obtain ⟨j, n, e1, e2, hn1, hn2, hpre, hpl⟩ := x.pre_step (.slice ao dn cap) w.heap.size k hk5 hI.out.1 hI.out.2.1 hI.out.2.2.1 hI.out.2.2.2.1 hI.out.2.2.2.2
              have c1 : wr.cell? ⟨Y, k, none⟩ = some (.pointer (some ⟨w.heap.size, j, none⟩)) := by rw [row_cells hay.2]; exact e1
              have c2 : wr.cell? ⟨w.heap.size, j, none⟩ = some (.int .i64 n) := by rw [row_cells hat.2]; exact e2
              have HP := Lib.hid (And.intro hown (And.intro hat (And.intro hay hpre)))
              clear hown hat hay hpre e1 e2
              go_wp2_with (go_at_call 25; refine (put_signed n hn1 hn2 w.heap.size _ _ _ wr HP.out.1 hsz (by omega)).mono ?_; rintro e w1 ⟨v', rfl, ho', hb', hkk⟩; have HQ := Lib.hid (And.intro ho' (And.intro hb' hkk)); clear ho' hb' hkk)
              refine ⟨⟨k + 1, by simp, by omega, ?_, hbel.trans HQ.out.2.1, HQ.out.2.2.at HP.out.2.1 (by decide), HQ.out.2.2.at HP.out.2.2.1 (by decide)⟩, by simp [intOf]; omega⟩
              rw [HP.out.2.2.2, List.length_append]
              exact HQ.out.1
            · obtain rfl : k = 5 := by omega
              have HP := Lib.hid (And.intro hown (And.intro hat hay))
              clear hown hat hay
              go_wp2_with fail
              go_meet
              rw [x.pre_five HK1.out] at HP
              exact ⟨HP.out.1, hbel, HP.out.2.1⟩
        · have hk1' : (x.kind == 1) = false := by simp [hk1]
          go_wp2_with fail
          go_meet
          have h1 := owns_lit ((w.alloc (.cells (x.vals (.slice ao dn cap)) 34)).alloc (.cells (x.vals (.slice ao dn cap)) 34)) #[.int .u8 (x.kind % 256)] 5 (by simp)
          rw [size_alloc', size_alloc'] at h1
          refine ⟨Joins.ownsRow_le (by rw [x.head_other hk1, kind_cell]; exact h1) (by omega), (((Below.refl _ _).alloc (Nat.le_refl _) _).alloc (by simp) _ |>.alloc (by simp; omega) _), ((At.new (Nat.le_refl _) _).alloc _).alloc _⟩
      case rest =>
        obtain ⟨hown, hbel, hat⟩ := hcut
        have hsz := hbel.size
        have hh10 : x.head.length ≤ 51 := x.head_len hI.out.1 hI.out.2.1 hI.out.2.2.1 hI.out.2.2.2.1 hI.out.2.2.2.2
        obtain ⟨v1, W1, hr1, ho1, hg1⟩ := run_app_str (W := wc.drew) (s := x.name) hown.drew (by omega) (by omega) hsz
        have hb1 : Below w.heap.size w W1 := (hbel.drew).grown hg1 hsz (fun k hk => (hown.lt k hk).1)
        have ha1 : At W1 w.heap.size w.heap.size (.cells (x.vals (.slice ao dn cap)) 34) := ((KeepKind.drew _ _).trans (KeepKind.grown hown.drew hg1)).at hat (by decide)
        obtain ⟨v2, W2, hr2, ho2, hg2⟩ := run_app_data (W := W1) (dv := .slice ao dn cap) (data := x.data) ho1 (HD.out.1.below hb1 (Nat.le_refl _)) (by omega) (by have := HD.out.2; omega) hb1.size
        have hb2 : Below w.heap.size w W2 := hb1.grown hg2 hb1.size (fun k hk => (ho1.lt k hk).1)
        have q := row_cells hat.2
        have q1 := row_cells ha1.2
        unfold Inp.vals at q q1
        obtain ⟨g2, c2, rfl⟩ := Joins.ownsRow_form ho2 (by have := x.head_pos; omega)
        have hl2 : x.head.length + x.name.size + x.data.length = x.bytes.length := by simp [Inp.bytes]; have : x.name.data.size = x.name.size := rfl; omega
        have HO := Lib.hid (And.intro ho2 (And.intro hb2 hl2))
        have HR1 := Lib.hid hr1
        have HR2 := Lib.hid hr2
        clear hown hbel hat ho1 hb1 ha1 ho2 hb2 hg1 hg2 hl2 hr1 hr2
        go_wp2_with fail
        go_region_law (first
          | (refine step_of_append rfl (.tmp 38) (.tmp 41) 26 9 rfl _ _ (by simp [Act.eval]) (by simp [Act.eval]) HR1.out ?_)
          | (refine step_of_append rfl (.tmp 42) (.tmp 44) 26 26 rfl _ _ (by simp [Act.eval]) (by simp [Act.eval]) HR2.out ?_))
        all_goals
          have hdn := HD.out.2
          by_cases hB : 8192 < x.head.length + x.name.size + x.data.length
          · have he : x.enc = ([], 2) := by unfold Inp.enc; rw [if_neg (by simp [HIS.out]), if_neg (by omega), if_pos (by rw [← HO.out.2.2]; exact hB)]
            have hB' : (8192 : Int) < (x.head.length : Int) + (x.name.size : Int) + (x.data.length : Int) := by omega
            have HE := Lib.hid he
            clear hdn he
            go_wp2
            go_ret2
            rw [HE.out]
            exact ⟨_, rfl, World.ownsRow_nil _ _ _ _, HO.out.2.1⟩
          · have he : x.enc = (x.bytes, 0) := by unfold Inp.enc; rw [if_neg (by simp [HIS.out]), if_neg (by omega), if_neg (by rw [← HO.out.2.2]; exact hB)]
            have hB' : ¬ (8192 : Int) < (x.head.length : Int) + (x.name.size : Int) + (x.data.length : Int) := by omega
            have HE := Lib.hid he
            clear hdn he
            go_wp2
            go_ret2
            rw [HE.out]
            refine ⟨_, rfl, ?_, HO.out.2.1⟩
            show World.ownsRow _ _ _ _ _ x.bytes.length _
            rw [← HO.out.2.2]; exact HO.out.1
end Go.Proofs.YtegdpagjloidnaaGreatDoor
