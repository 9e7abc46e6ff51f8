/- Journal.Append of a record of one sector, on a sector never written (one region of it takes four minutes). -/
import Derived.Test.YtegdpagjloidnaaGreatDoorApp0
import Derived.StillTailTactics
import Derived.Deep.RegionHeld3
namespace Go.Proofs.YtegdpagjloidnaaGreatDoor
open Go.RowKit Go.Conc

theorem cell_alloc2 {w : World} {A B : Obj} {a : Addr} {v : Value} (h : w.cell? a = some v) : ((w.alloc A).alloc B).cell? a = some v := Lib.cell?_alloc_some _ (Lib.cell?_alloc_some _ h)
/-- A piece that does not panic: its panic's continuation asks for nothing of the frame (so that go_region_with may take len first). -/
theorem wp_nopanic {P : Program} {c : Code} {Q : Exit → Act → World → Prop} {a : Act} {w : World} (h : c.wp P (fun e a w => match e with | .panic _ => False | e => Q e a w) a w) : c.wp P Q a w :=
  Code.wp_mono (fun e a w hq => by cases e <;> first | exact hq | exact hq.elim) h

theorem disk_isOn' (w : World) (d : Nat) (c1 : w.cell? ⟨d, 1, none⟩ = some (.bool false)) :
    Calls Tryz.prog 49 #[.pointer (some ⟨d, 0, none⟩)] w fun e w' => e = .returned (.bool true) ∧ w = w' := by
  go_enter Tryz.func49, Tryz.ntmps49
  go_wp2
  go_ret
  exact ⟨rfl, rfl⟩

theorem bytes_of (l : List Int) (h : ∀ x ∈ l, 0 ≤ x ∧ x < 256) : l.map (Value.int .u8) = (l.map fun x => UInt8.ofNat x.toNat).map U8 := by
  rw [List.map_map]
  refine List.map_congr_left fun x hx => ?_
  obtain ⟨h1, h2⟩ := h x hx
  have h3 : x.toNat % 256 = x.toNat := Nat.mod_eq_of_lt (by omega)
  simp only [U8, Function.comp, UInt8.toNat_ofNat']
  rw [show 2 ^ 8 = 256 from rfl, h3]
  congr 1; omega
theorem mark_bd (k p n : Int) (h0 : 0 ≤ k) (h1 : k ≤ 1000000) : ∀ x ∈ markBytes k p n, 0 ≤ x ∧ x < 256 := by
  intro x hx
  simp only [markBytes, List.mem_cons, List.not_mem_nil, or_false] at hx
  rcases hx with rfl | rfl | rfl | rfl | rfl | rfl | rfl | rfl
  all_goals first | omega | (split <;> omega)

theorem bytes0_one {n : Nat} : ∀ v ∈ (bytes0 n).toList, v.oneCell' = true := by
  intro v h
  simp only [bytes0, List.mem_replicate] at h
  rw [h.2]; rfl
theorem own_kind {w w' : World} {base n : Nat} {e e' : TypeId} {v : Value} {xs : List Value} (h : w.ownsRow base e 1 v n xs) (hk : KeepKind e' w w') (he : e ≠ e') : w'.ownsRow base e 1 v n xs := by
  obtain ⟨h1, h2 | ⟨g, cap, cur, rfl, hb, hg, h3⟩⟩ := h
  · exact ⟨h1, Or.inl h2⟩
  · exact ⟨h1, Or.inr ⟨g, cap, cur, rfl, hb, hk g _ hg (fun c fz hh => by simp only [Obj.cells.injEq] at hh; exact he hh.2.1), h3⟩⟩
theorem Sec.kind {w w' : World} {S : Nat} (h : Sec w w' S) {cur : Array Value} (hS : w.heap[S]? = some (.cells cur 5 (0, 0))) : KeepKind 5 w w' := fun k o ho hn => by
  rw [h.block k (by rintro rfl; rw [hS] at ho; simp at ho; exact hn _ _ ho.symm)]; exact ho
theorem Sec.below {w w' : World} {S B : Nat} (h : Sec w w' S) (hB : B ≤ S) : Below B w w' := ⟨h.os, h.tape, h.output, Nat.le_of_eq h.size.symm, fun k hk => h.block k (by omega)⟩
theorem sec_reads_alloc {w5 : World} {mg mo mc m : Nat} {xs : List UInt8} (h : Reads w5 (.slice (some ⟨mg, mo, none⟩) m mc) xs) (o : Obj) : Reads (w5.alloc o) (.slice (some ⟨mg, mo, none⟩) m mc) xs :=
  h.below ((Below.refl w5.heap.size w5).alloc (Nat.le_refl _) _) (Nat.le_refl _)

set_option maxHeartbeats 4000000 in
set_option maxRecDepth 100000 in
theorem journal_append (w : World) (lo lo' j d sb base k n cap bb bo : Nat) (rv : Value) (xs : List Value) (next : Nat) (t0 : Int) (ps : Array Value) (wr : Int) (tr : Array Value) (bs : List UInt8) (hj : JAt w lo j d rv next false) (hd : DiskSt w lo' d sb ps wr tr) (h1 : next < ps.size) (hn : ps.size ≤ 65536)
    (hr : w.ownsRow base 26 1 rv k xs) (hbase : base ≤ w.heap.size) (hk : k ≤ 100000) (hb : Reads w (.slice (some ⟨bb, bo, none⟩) n cap) bs) (hbz : bb < w.heap.size) (hbd : bb ≠ d) (hbs : bb ≠ sb) (hn496 : n ≤ 496) (hp : ps[next]? = some (.pointer none)) (hw0 : 0 ≤ wr) (hw1 : wr ≤ 100000) (ht : tr[(wr % 64).toNat]? = some (.int .i64 t0)) (hne : d ≠ sb) :
    Calls Tryz.prog 38 #[.pointer (some ⟨j, 0, none⟩), .slice (some ⟨bb, bo, none⟩) n cap] w fun e w' => e = .returned (.int .i64 0) ∧ Logged w w' lo lo' j d sb base k rv next ps wr tr := by
  have hmf : ∀ (fn : Fn) (first cap : Array Value) (w : World), (Instr.makeFunc fn first cap).run Tryz.prog w = .ok (.func fn first cap) w := fun _ _ _ _ => rfl
  obtain ⟨q, fj⟩ := jrow hj
  obtain ⟨c0, c1, c2, c5⟩ := disk_row hd.1.2
  have zj := hj.lt
  have zd := hd.1.lt
  have zs := hd.2.lt
  have hbn := hb.len
  have hbc := hb.cap_le
  obtain ⟨ro, rn, rc, rfl, hrn⟩ : ∃ ro rn rc, rv = .slice ro rn rc ∧ rn ≤ 100000 := by
    rcases Joins.ownsRow_forms hr with ⟨h1, h2⟩ | ⟨g, c, h1⟩
    · exact ⟨_, _, _, h1, by omega⟩
    · exact ⟨_, _, _, h1, hk⟩
  have HH := Lib.hid (And.intro hj (And.intro hd (And.intro hr (And.intro hb (And.intro hbn (And.intro hp ht))))))
  have C1 := Lib.hid c1
  clear hj hd hr hb hbn hp ht c0 c1 c2 c5
  have hsec : secs n = 1 := by unfold secs; omega
  go_enter_defers Tryz.func38, Tryz.ntmps38
  go_upto_region 6 with (go_at_call 49; refine (disk_isOn' _ d (cell_alloc2 C1.out)).mono ?_; rintro e w1 ⟨rfl, rfl⟩)
  go_cut [26] from 27 to 32 (fun v wx => v = .bool false ∧ AEnv wx w.heap.size lo lo' j d sb (.slice ro rn rc) next ps wr tr ∧ wx.ownsRow base 26 1 (.slice ro rn rc) k xs ∧ Reads wx (.slice (some ⟨bb, bo, none⟩) n cap) bs ∧ Below w.heap.size w wx ∧ w.heap.size + 2 ≤ wx.heap.size)
  case first =>
    refine wp_nopanic ?_
    go_region_with (first
      | (go_at_call 51; refine (sectors_any n _ (by omega) (by omega)).mono ?_; rintro e w1 ⟨rfl, rfl⟩)
      | (go_at_call 57; refine (journal_room _ lo lo' j d sb (.slice ro rn rc) next ps wr tr (by exact At.alloc (At.alloc HH.out.1 _) _) (by exact ⟨At.alloc (At.alloc HH.out.2.1.1 _) _, At.alloc (At.alloc HH.out.2.1.2 _) _⟩) (by omega) (by omega) hn).mono ?_; rintro e w1 ⟨rfl, rfl⟩))
    all_goals (go_wp2_with fail; go_meet)
    all_goals
      refine ⟨congrArg Value.bool (decide_eq_false (by omega)), ?_⟩
      have hb2 : Below w.heap.size w ((w.alloc (.cells #[.pointer (some ⟨j, 0, none⟩)] 90)).alloc (.cells #[.int .i64 0] 31)) := ((Below.refl _ _).alloc (Nat.le_refl _) _).alloc (by simp) _
      exact ⟨AEnv.drew (AEnv.drew ⟨(At.new' (Nat.zero_le _) rfl _).alloc _, At.new' (Nat.zero_le _) (by simp) _, (HH.out.1.alloc _).alloc _, ⟨(HH.out.2.1.1.alloc _).alloc _, (HH.out.2.1.2.alloc _).alloc _⟩⟩), ((HH.out.2.2.1.alloc _).alloc _).drew.drew, Reads.below (w' := (w.alloc (.cells #[.pointer (some ⟨j, 0, none⟩)] 90)).alloc (.cells #[.int .i64 0] 31)) HH.out.2.2.2.1 hb2 (Nat.le_refl _), hb2.drew.drew, by simp⟩
  case rest =>
    obtain ⟨rfl, hX⟩ := hcut
    obtain ⟨cb, ce, fe, qj, fj2, zb, ze, zj2⟩ := hX.1.cells
    have HX := Lib.hid hX
    clear hX q fj
    go_wp2_with (go_at_call 51; refine (sectors_any n _ (by omega) (by omega)).mono ?_; rintro e w1 ⟨rfl, rfl⟩)
    refine wp_loop_rounds 2 ?_; rw [rounds_succ]
    have hmk := fun W => mk_bytes 512 (by omega) (by omega) W
    go_wp2_with fail
    refine (mark_any _ _ _ _ (by omega) (by omega) (by omega) (by omega)).mono ?_
    rintro e w5 ⟨mv, rfl, hmo, hmb⟩
    obtain ⟨mg, mc, rfl, _, _⟩ := own_shape hmo
    have A5 := HX.out.1.below hmb (Nat.le_refl _)
    have R5 := HX.out.2.2.1.below hmb (Nat.le_refl _)
    have O5 := own_below HX.out.2.1 hmb (Nat.le_refl _)
    have B5 := HX.out.2.2.2.1.trans (hmb.mono HX.out.2.2.2.1.size)
    rw [bytes_of _ (mark_bd _ _ _ (by omega) (by omega))] at hmo
    have M5 := reads_own hmo
    have zm : mg < w5.heap.size := (hmo.lt mg rfl).2
    clear cb ce fe qj fj2 zb ze zj2
    obtain ⟨cb, ce, fe, qj, fj2, zb, ze, zj2⟩ := A5.cells
    have HX5 := Lib.hid (And.intro A5 (And.intro R5 (And.intro O5 (And.intro B5 (And.intro M5 hmb.size)))))
    clear A5 R5 O5 B5 hmo M5
    have hM0 := sec_reads_alloc HX5.out.2.2.2.2.1 (.cells (bytes0 512) 5)
    obtain ⟨W1, e1, s1⟩ := sec_copy (o := 0) (n := 512) (dc := 512) (heap_alloc_at w5 (.cells (bytes0 512) 5)) (by simp [bytes0]) bytes0_one rfl hM0 (by omega) (by omega)
    go_wp2_with fail
    have hS0 := heap_alloc_at w5 (.cells (bytes0 512) 5)
    have A1 := (HX5.out.1.alloc (.cells (bytes0 512) 5)).sec s1 hS0
    have z5 := HX5.out.2.2.2.1.size
    have nb : bb ≠ w5.heap.size := by omega
    have nm : mg ≠ w5.heap.size := by omega
    have R1 := (sec_reads_alloc HX5.out.2.1 (.cells (bytes0 512) 5)).sec s1 nb
    have M1 := hM0.sec s1 nm
    have O1 := own_kind (HX5.out.2.2.1.alloc (.cells (bytes0 512) 5)) (s1.kind hS0) (by decide)
    have B1 := (HX5.out.2.2.2.1.alloc z5 (.cells (bytes0 512) 5)).trans (s1.below z5)
    have Z1 := s1.size
    obtain ⟨cs1, hs1, hsz1, hone1⟩ := s1.row
    clear cb ce fe qj fj2 zb ze zj2 e1 s1 hM0
    obtain ⟨cb, ce, fe, qj, fj2, zb, ze, zj2⟩ := A1.cells
    obtain ⟨W2, e2, s2⟩ := sec_copy (w := W1.drew) (o := 8) (n := 496) (dc := 504) hs1 hsz1 hone1 rfl (bs := bs) (show Reads W1.drew _ bs from R1) (by omega) (by omega)
    have HX1 := Lib.hid (And.intro A1 (And.intro R1 (And.intro O1 (And.intro B1 (And.intro M1 (And.intro Z1 s2))))))
    have HS1 := Lib.hid hs1
    clear A1 R1 O1 B1 M1 Z1 hs1 hone1 hsz1
    generalize w5.heap.size = S at *
    go_region
    have s2 := HX1.out.2.2.2.2.2.2
    have A2 := (HX1.out.1.drew).sec s2 HS1.out
    have M2 := Reads.sec (w := W1.drew) HX1.out.2.2.2.2.1 s2 nm
    have R2 := Reads.sec (w := W1.drew) HX1.out.2.1 s2 nb
    have O2 := own_kind (World.ownsRow.drew HX1.out.2.2.1) (s2.kind HS1.out) (by decide)
    have B2 := (Below.drew HX1.out.2.2.2.1).trans (s2.below z5)
    have Z2 := s2.size
    obtain ⟨cs2, hs2, hsz2, hone2⟩ := s2.row
    clear cb ce fe qj fj2 zb ze zj2 e2 s2
    obtain ⟨W3, e3, s3⟩ := sec_copy (o := 504) (n := 8) (dc := 8) hs2 hsz2 hone2 rfl M2 (by omega) (by omega)
    have HX2 := Lib.hid (And.intro A2 (And.intro R2 (And.intro O2 (And.intro B2 (And.intro Z2 (And.intro hs2 s3))))))
    clear A2 M2 R2 O2 B2 Z2 hs2 hone2 hsz2
    go_wp2_with fail
    have s3 := HX2.out.2.2.2.2.2.2
    have hs2 := HX2.out.2.2.2.2.2.1
    have A3 := HX2.out.1.sec s3 hs2
    have R3 := HX2.out.2.1.sec s3 nb
    have O3 := own_kind HX2.out.2.2.1 (s3.kind hs2) (by decide)
    have B3 := HX2.out.2.2.2.1.trans (s3.below z5)
    have Z3 := s3.size
    obtain ⟨cs3, hs3, hsz3, hone3⟩ := s3.row
    clear e3 s3 hs2
    obtain ⟨cb, ce, fe, qj, fj2, zb, ze, zj2⟩ := A3.cells
    have nd : S ≠ d := by omega
    have ns : S ≠ sb := by omega
    have HX3 := Lib.hid (And.intro A3 (And.intro R3 (And.intro O3 (And.intro B3 (And.intro Z3 (And.intro hs3 (And.intro hsz3 hone3)))))))
    clear A3 R3 O3 B3 Z3 hs3 hsz3 hone3
    go_still_tail 11, (by kernel_rfl)
    change wpList _ _ _ _ _ W3.drew
    go_wp2_with fail
    refine (disk_write _ lo' d sb ps wr t0 tr next S cs3 (by exact HX3.out.1.drew.dt) HH.out.2.2.2.2.2.1 hne hw0 (by omega) HH.out.2.2.2.2.2.2 (by exact HX3.out.2.2.2.2.2.1) HX3.out.2.2.2.2.2.2.1 HX3.out.2.2.2.2.2.2.2 nd ns).mono ?_
    rintro e w6 ⟨rfl, hw6⟩
    have A6 := HX3.out.1.drew.wrote hw6
    have R6 := Reads.wrote (X := W3.drew) HX3.out.2.1 hw6 (by show bb < W3.heap.size; have := HX3.out.2.2.2.1.size; omega) hbd hbs
    have O6 := own_wrote (X := W3.drew) HX3.out.2.2.1.drew (by exact HX3.out.1.drew.dt) hw6
    have B3 := HX3.out.2.2.2.1
    have F6 : w6.os = w.os ∧ w6.tape = w.tape ∧ w6.output = w.output ∧ w.heap.size ≤ w6.heap.size ∧ ∀ k, k < w.heap.size → k ≠ d → k ≠ sb → w6.heap[k]? = w.heap[k]? :=
      ⟨hw6.os.trans B3.os, hw6.tape.trans B3.tape, hw6.output.trans B3.output, Nat.le_trans B3.size (Nat.le_of_lt hw6.size), fun k hk h1 h2 => (hw6.block k (Nat.lt_of_lt_of_le hk B3.size) h1 h2).trans (B3.block k hk)⟩
    clear cb ce fe qj fj2 zb ze zj2 B3
    obtain ⟨cb, ce, fe, qj, fj2, zb, ze, zj2⟩ := A6.cells
    have z6 : W3.heap.size < w6.heap.size := hw6.size
    have zw := F6.2.2.2.1
    have HX6 := Lib.hid (And.intro A6 (And.intro R6 (And.intro O6 F6)))
    clear A6 R6 O6 F6 hw6
    generalize hz3 : W3.drew.heap.size = Z3 at *
    clear hz3
    go_wp2_with fail
    rw [rounds_succ]
    go_wp2_with fail
    obtain ⟨v7, W7, e7, o7, g7⟩ := run_app_data (W := w6.drew) (base := w6.heap.size) (v := .slice none 0 0) (bs := []) (World.ownsRow_nil _ _ _ _) (show Reads w6.drew _ bs from HX6.out.2.1) (by omega) (by rw [HX6.out.2.1.len]; omega) (Nat.le_refl _)
    rw [Nat.zero_add, HX6.out.2.1.len] at o7
    obtain ⟨a7, c7, rfl⟩ := own_any o7
    have K7 : KeepKind 5 w6.drew W7 := KeepKind.grown (World.ownsRow_nil w6.drew w6.heap.size _ _) g7
    have S7 : w6.heap.size ≤ W7.heap.size := g7.size
    have O7 := own_kind (World.ownsRow.drew HX6.out.2.2.1) K7 (by decide)
    have O8 := O7.alloc (.cells #[.slice a7 n c7] 26)
    have A8 := (HX6.out.1.drew.kind K7 (Or.inl rfl)).alloc (.cells #[.slice a7 n c7] 26)
    obtain ⟨v9, W9, e9, o9, g9⟩ := run_app_rec O8 (heap_alloc_at W7 (.cells #[.slice a7 n c7] 26)) rfl (by omega) (by simp; omega)
    have A9 := A8.kind (KeepKind.grown O8 g9) (Or.inr rfl)
    obtain ⟨r9, rfl⟩ : ∃ p : Option Addr × Nat × Nat, v9 = .slice p.1 p.2.1 p.2.2 := by
      obtain ⟨a, c, rfl⟩ := own_any o9
      exact ⟨⟨a, _, c⟩, rfl⟩
    obtain ⟨r9a, r9n, r9c⟩ := r9
    dsimp only at e9 o9 g9
    have E7 := Lib.hid e7
    have E9 := Lib.hid e9
    obtain ⟨cb7, ce7, fe7, qj7, fj7, zb7, ze7, zj7⟩ := (HX6.out.1.drew.kind K7 (Or.inl rfl)).cells
    obtain ⟨cb9, ce9, fe9, qj9, fj9, zb9, ze9, zj9⟩ := A9.cells
    have hl7 := HX6.out.2.1.len
    have HX9 := Lib.hid (And.intro A9 (And.intro o9 (And.intro g9 (And.intro g7 (And.intro o7 (And.intro hl7 (And.intro O8 O7)))))))
    clear e7 e9 A8 A9 O7 K7 hl7 O8 o9 g9 g7 o7
    go_cut [] from 78 to 88 (fun wx => wx = W9.setCell ⟨j, 1, none⟩ (.slice r9a r9n r9c))
    case first =>
      refine wp_nopanic ?_
      go_region_law (first
        | (refine step_of_append rfl (.const (.slice none 0 0)) (.tmp 83) 26 26 rfl _ _ (by rfl) (by rfl) E7.out ?_)
        | (refine step_of_append rfl (.tmp 82) (.tmp 85) 128 128 rfl _ _ (by rfl) (by rfl) E9.out ?_))
      all_goals (go_wp2_with fail; go_meet)
      all_goals exact rfl
    case rest =>
      subst hcut
      have AX := HX9.out.1.setRv (.slice r9a r9n r9c)
      have OX := own_setJ (o := 1) HX9.out.1 HX9.out.2.1 (.slice r9a r9n r9c)
      have FX : (W9.setCell ⟨j, 1, none⟩ (.slice r9a r9n r9c)).os = w.os ∧ (W9.setCell ⟨j, 1, none⟩ (.slice r9a r9n r9c)).tape = w.tape ∧ (W9.setCell ⟨j, 1, none⟩ (.slice r9a r9n r9c)).output = w.output ∧ w.heap.size ≤ (W9.setCell ⟨j, 1, none⟩ (.slice r9a r9n r9c)).heap.size ∧ ∀ k, k < w.heap.size → k ≠ j → k ≠ d → k ≠ sb → (Value.slice ro rn rc).ownBlock ≠ some k → (W9.setCell ⟨j, 1, none⟩ (.slice r9a r9n r9c)).heap[k]? = w.heap[k]? := by
        obtain ⟨f1, f2, f3, f4, f5⟩ := HX6.out.2.2.2
        obtain ⟨-, -, g9, g7, -, -, -, -⟩ := HX9.out
        refine ⟨g9.os.trans (g7.os.trans f1), g9.tape.trans (g7.tape.trans f2), g9.output.trans (g7.output.trans f3), ?_, fun k hk k1 k2 k3 k4 => ?_⟩
        · rw [size_setCell]
          have a1 := g9.size
          have a2 := g7.size
          rw [size_alloc'] at a1
          simp only [size_drew] at a2
          omega
        · have a2 := g7.size
          simp only [size_drew] at a2
          rw [Below.heap_setCell _ _ _ _ (by show k ≠ j; exact k1), g9.block k (by rw [size_alloc']; omega) (Ne.symm k4), heap_alloc_lt _ _ (by omega), g7.block k (by show k < w6.heap.size; omega) (by simp [Value.ownBlock])]
          exact f5 k hk k2 k3
      clear HX9 HX6 E7 E9 cb9 ce9 fe9 qj9 fj9 zb9 ze9 zj9 cb ce fe qj fj2 zb ze zj2
      generalize W9.setCell ⟨j, 1, none⟩ (.slice r9a r9n r9c) = X at *
      obtain ⟨cb, ce, fe, qj, fj2, zb, ze, zj2⟩ := AX.cells
      have HXX := Lib.hid (And.intro AX (And.intro OX FX))
      clear AX OX FX
      go_wp2_with fail
      go_still_tail 8, (by kernel_rfl)
      still_call ((sectors_any n _ (by omega) (by omega)).mono fun e w' h => ⟨h.1, h.2.symm⟩)
      repeat still_step
      refine wpStill_nil ?_
      change wpList _ _ _ _ _ X.drew
      go_wp2_with fail
      refine leaves_cons (f := 56) (args := #[.pointer (some ⟨w.heap.size + 1, 0, none⟩), .pointer (some ⟨w.heap.size, 0, none⟩)]) (by simp) (by simp [go_sem]) ?_
      refine (append_defer _ .returning (w.heap.size + 1) w.heap.size 0 (by decide) ?_).mono ?_
      · have A2 := (HXX.out.1.setNext ((next : Int) + 1)).be.setCell 0 (.int .i64 0)
        exact row_cells A2.2 0
      · rintro e u' w'' ⟨rfl, rfl, rfl⟩
        have AN := HXX.out.1.setNext ((next : Int) + 1)
        have ON := own_setE (o := 0) AN (own_setJ (o := 2) HXX.out.1 HXX.out.2.1 (.int .i64 ((next : Int) + 1))) (.int .i64 0)
        have A2 := AN.be.setCell 0 (.int .i64 0)
        have hce : ((X.setCell ⟨j, 2, none⟩ (.int .i64 ((next : Int) + 1))).setCell ⟨w.heap.size + 1, 0, none⟩ (.int .i64 0)).drew.cell? ⟨w.heap.size + 1, 0, none⟩ = some (.int .i64 0) := row_cells A2.2 0
        obtain ⟨f1, f2, f3, f4, f5⟩ := HXX.out.2.2
        obtain ⟨n1, n2, n3, n4⟩ := AN.ne
        obtain ⟨m1, m2⟩ := AN.ne2
        refine ⟨.int .i64 0, by simp [results, Tryz.results38, go_sem, hce], rfl, ⟨⟨_, _, AN.jt.setCell_ne (Ne.symm n2) _ _ _, ON⟩, ⟨_, AN.dt.1.setCell_ne m1 _ _ _, AN.dt.2.setCell_ne m2 _ _ _⟩, f1, f2, f3, ?_, fun k hk k1 k2 k3 k4 => ?_⟩⟩
        · show w.heap.size ≤ ((X.setCell ⟨j, 2, none⟩ _).setCell ⟨w.heap.size + 1, 0, none⟩ _).heap.size
          rw [size_setCell, size_setCell]; exact f4
        · show ((X.setCell ⟨j, 2, none⟩ _).setCell ⟨w.heap.size + 1, 0, none⟩ _).heap[k]? = _
          rw [Below.heap_setCell _ _ _ _ (by show k ≠ w.heap.size + 1; omega), Below.heap_setCell _ _ _ _ (by show k ≠ j; exact k1)]
          exact f5 k hk k1 k2 k3 k4
end Go.Proofs.YtegdpagjloidnaaGreatDoor
