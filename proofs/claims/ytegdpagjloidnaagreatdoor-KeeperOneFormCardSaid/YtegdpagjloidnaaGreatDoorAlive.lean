/- The statements' example of the document: alive() is true. -/
import Derived.Test.YtegdpagjloidnaaGreatDoorTwo
namespace Go.Proofs.YtegdpagjloidnaaGreatDoor
open Go.RowKit Go.Conc

def xA : Inp := ⟨1, 1, 2, 2, ⟨#[107]⟩, 150, -1, []⟩
theorem encA : xA.enc = ([1, 2, 4, 4, 172, 2, 1, 107], 0) := by
  have e1 : putNum 1 = [2] := by unfold putNum; rw [show Lib.zigzag 1 = 2 from rfl, uv]; rfl
  have e2 : putNum 2 = [4] := by unfold putNum; rw [show Lib.zigzag 2 = 4 from rfl, uv]; rfl
  have e3 : putNum 150 = [172, 2] := by unfold putNum; rw [show Lib.zigzag 150 = 300 from rfl, uv, if_neg (by decide), uv, if_pos (by decide)]; rfl
  have e4 : putNum (-1) = [1] := by unfold putNum; rw [show Lib.zigzag (-1) = 1 from rfl, uv]; rfl
  have hb : xA.bytes = [1, 2, 4, 4, 172, 2, 1, 107] := by
    simp only [Inp.bytes, Inp.head, Inp.nums, xA, e1, e2, e3, e4]; rfl
  unfold Inp.enc
  rw [if_neg (by simp [xA, Inp.is]), if_neg (by decide), if_neg (by rw [hb]; decide), hb]
theorem decA : dec [3, 255, 0] = (Inp.ofData 3 [255, 0], 0) := by rw [dec_data (k := 3) (by decide) rfl (by decide)]; simp [Inp.is, Inp.ofData, Inp.blank]
theorem decB : dec [4, 0] = (Inp.zero, 220) := by rw [dec_data (k := 4) (by decide) rfl (by decide)]; simp [Inp.is, Inp.ofData, Inp.blank]

/-- A literal of bytes. -/
theorem reads_lit {w : World} (xs : List UInt8) (cs : Array Value) (n : Nat) (hn : xs.length = n) (hc : cs.toList = xs.map U8) : Reads (w.alloc (.cells cs 5)) (.slice (some ⟨w.heap.size, 0, none⟩) n n) xs := by
  subst hn
  refine reads_row (heap_alloc_at w _) xs xs.length (Nat.le_refl _) ?_
  rw [hc, List.take_of_length_le (by simp)]

theorem encode_A (w : World) : Calls Tryz.prog 8 #[.agg #[.int .i64 1, .int .i64 1, .int .i64 2, .int .i64 2, .string ⟨#[107]⟩, .int .i64 150, .int .i64 (-1), .slice none 0 0]] w fun e w' => ∃ g c, e = .returned (.tuple #[.slice (some ⟨g, 0, none⟩) 8 c, .int .i64 0]) ∧ w'.ownsRow w.heap.size 5 1 (.slice (some ⟨g, 0, none⟩) 8 c) 8 (Lib.byteCells [1, 2, 4, 4, 172, 2, 1, 107]) ∧ Below w.heap.size w w' := by
  refine (keeper_encode xA (.slice none 0 0) w (Or.inl ⟨rfl, rfl⟩) (by decide) (by decide) ⟨by decide, by decide⟩ ⟨by decide, by decide⟩ ⟨by decide, by decide⟩ ⟨by decide, by decide⟩ ⟨by decide, by decide⟩).mono ?_
  rintro e w1 ⟨v1, rfl, ho1, hb1⟩
  rw [encA] at ho1 ⊢
  obtain ⟨g1, c1, rfl⟩ := Joins.ownsRow_form ho1 (by decide)
  exact ⟨g1, c1, rfl, ho1, hb1⟩
theorem decode_A (w : World) (S : Nat) (hS : w.heap.size = S) : Calls Tryz.prog 14 #[.slice (some ⟨S, 0, none⟩) 3 3] (w.alloc (.cells #[.int .u8 3, .int .u8 255, .int .u8 0] 5)) fun e w' => ∃ a c, e = .returned (.tuple #[.agg #[.int .i64 3, .int .i64 0, .int .i64 0, .int .i64 0, .string ByteArray.empty, .int .i64 0, .int .i64 0, .slice a 2 c], .int .i64 0]) ∧ Below w.heap.size w w' := by
  subst hS
  refine (keeper_decode _ [3, 255, 0] (w.alloc (.cells #[.int .u8 3, .int .u8 255, .int .u8 0] 5)) (reads_lit [3, 255, 0] _ 3 rfl (by simp [U8])) (by decide)).mono ?_
  rintro e w2 ⟨v2, rfl, ho2, hb2⟩
  rw [decA] at ho2 ⊢
  obtain ⟨a2, c2, rfl⟩ := own_any ho2
  exact ⟨a2, c2, rfl, ((Below.refl _ _).alloc (Nat.le_refl _) _).trans (hb2.mono (by rw [size_alloc']; omega))⟩
theorem decode_B (w : World) (S : Nat) (hS : w.heap.size = S) : Calls Tryz.prog 14 #[.slice (some ⟨S, 0, none⟩) 2 2] (w.alloc (.cells #[.int .u8 4, .int .u8 0] 5)) fun e w' => ∃ a c, e = .returned (.tuple #[.agg #[.int .i64 0, .int .i64 0, .int .i64 0, .int .i64 0, .string ByteArray.empty, .int .i64 0, .int .i64 0, .slice a 0 c], .int .i64 220]) ∧ Below w.heap.size w w' := by
  subst hS
  refine (keeper_decode _ [4, 0] (w.alloc (.cells #[.int .u8 4, .int .u8 0] 5)) (reads_lit [4, 0] _ 2 rfl (by simp [U8])) (by decide)).mono ?_
  rintro e w2 ⟨v2, rfl, ho2, hb2⟩
  rw [decB] at ho2 ⊢
  obtain ⟨a2, c2, rfl⟩ := own_any ho2
  exact ⟨a2, c2, rfl, ((Below.refl _ _).alloc (Nat.le_refl _) _).trans (hb2.mono (by rw [size_alloc']; omega))⟩

def tr0 : Array Value := (List.replicate 64 (Value.int .i64 0)).toArray
theorem nilPtrs_size (n : Nat) : (nilPtrs n).size = n := by simp [nilPtrs]
set_option maxHeartbeats 400000 in
set_option maxRecDepth 100000 in
theorem disk_20 (w : World) : Calls Tryz.prog 17 #[.int .i64 20] w fun e w' => ∃ d sb, e = .returned (.tuple #[.pointer (some ⟨d, 0, none⟩), .int .i64 0]) ∧ DiskSt w' 0 d sb (nilPtrs 20) 0 tr0 ∧ w.heap.size ≤ d ∧ w.heap.size ≤ sb ∧ d ≠ sb ∧ Below w.heap.size w w' := by
  have hmk := fun W => mk_secs 20 (by omega) (by decide) W
  go_enter Tryz.func17, Tryz.ntmps17
  go_wp2
  go_ret2
  refine ⟨w.heap.size + 1, w.heap.size, rfl, ⟨⟨Nat.zero_le _, ?_⟩, ⟨Nat.zero_le _, ?_⟩⟩, by omega, by omega, by omega, ((Below.refl _ _).alloc (Nat.le_refl _) _).alloc (by simp) _⟩
  · unfold tr0
    rw [nilPtrs_size, ← zero_disk]; simpa using heap_alloc_at (w.alloc (Obj.cells (nilPtrs 20) 304)) _
  · rw [heap_alloc_lt _ _ (by simp)]; exact heap_alloc_at _ _
theorem DiskSt.diskAt {w : World} {lo d sb n : Nat} (h : DiskSt w lo d sb (nilPtrs n) 0 tr0) : DiskAt w lo d n := by
  refine ⟨sb, tr0, ?_, h.2, by decide⟩
  have := h.1; rw [nilPtrs_size] at this; exact this
theorem DiskSt.keep' {w w' : World} {lo d sb : Nat} {ps tr : Array Value} {wr : Int} (h : DiskSt w lo d sb ps wr tr) (k : ∀ {i : Nat} {o : Obj}, At w lo i o → At w' lo i o) : DiskSt w' lo d sb ps wr tr := ⟨k h.1, k h.2⟩
theorem sight_drops (p1 p2 p3 : Option Addr) (n1 m1 n2 m2 n3 m3 : Nat) (W : World) : (Instr.field 70 (.agg #[.int .i64 0, .slice none 0 0, .slice p1 n1 m1, .slice p2 n2 m2, .slice p3 n3 m3, .slice none 0 0, .int .i64 1]) 6).run Tryz.prog W = .ok (.int .i64 1) W := by kernel_rfl
theorem below_alloc {w w' : World} {B : Nat} (h : Below B w w') (hB : B ≤ w.heap.size) (o : Obj) : Below B w (w'.alloc o) := h.alloc (Nat.le_trans hB h.size) o

set_option maxHeartbeats 4000000 in
set_option maxRecDepth 100000 in
theorem alive_true (w : World) : Calls Tryz.prog 6 #[] w fun e w' => e = .returned (.bool true) ∧ Below w.heap.size w w' := by
  go_enter Tryz.func6, Tryz.ntmps6
  go_wp2_with fail
  refine (encode_A w).mono ?_
  rintro e w1 ⟨g1, c1, rfl, ho1, hb1⟩
  have H1 := Lib.hid (And.intro ho1 hb1)
  clear ho1 hb1
  go_wp2_with fail
  refine (decode_A _ _ rfl).mono ?_
  rintro e w2 ⟨a2, c2, rfl, hb2⟩
  have H2 := Lib.hid hb2
  clear hb2
  go_wp2_with fail
  refine (decode_B _ _ (by rw [size_alloc'])).mono ?_
  rintro e w3 ⟨a3, c3, rfl, hb3⟩
  have H3 := Lib.hid hb3
  clear hb3
  go_wp2_with fail
  refine (disk_20 _).mono ?_
  rintro e w4 ⟨d, sb, rfl, hd4, hld, hls, hds, hb4⟩
  simp only [size_alloc'] at hld hls hb4
  have z1 := H1.out.2.size
  have z2 := H2.out.size
  have z3 := H3.out.size
  simp only [size_alloc'] at z3
  have x2 : At w4 0 w2.heap.size (.cells #[.int .i64 3, .int .i64 0, .int .i64 0, .int .i64 0, .string ByteArray.empty, .int .i64 0, .int .i64 0, .slice a2 2 c2] 34) :=
    ((At.new' (Nat.zero_le _) rfl _).below H3.out (by rw [size_alloc']; omega) |>.alloc _).below hb4 (by omega)
  have b4 : Below w1.heap.size w1 w4 := H2.out.trans ((below_alloc (((Below.refl w1.heap.size w2).alloc z2 _).trans (H3.out.mono (by rw [size_alloc']; omega))) z2 _).trans (hb4.mono (by omega)))
  have r1 := run_string_of (xs := [1, 2, 4, 4, 172, 2, 1, 107]) (Reads.below (reads_own (by exact H1.out.1)) b4 (Nat.le_refl _))
  have q2 := row_cells x2.2
  have H4 := Lib.hid (And.intro hd4 (And.intro hds b4))
  clear hd4 hb4 hds x2 b4
  go_wp2_with fail
  refine (keeper_open cfgA 0 d 20 0 _ ⟨by decide, by decide, by decide, by decide, by decide, by decide, by decide, by decide, by decide, by decide, by decide, by decide, by decide, by decide, by decide, by decide, by decide, by decide, by decide, by decide⟩ (by decide) (by decide) (H4.out.1.diskAt.keep (Same.alloc _ _ _)) (by decide)).mono ?_
  rintro e w5 ⟨kk, j, rfl, hk5, hrep, hj5, hjz, hkz, hb5⟩
  simp only [size_alloc'] at hk5 hrep hj5 hjz hkz hb5
  have z4 := H4.out.2.2.size
  obtain ⟨nm, ca, vw, gs, la, sa, rc, en, clock, hS5, hP5, hRz, hsaR, hsaz⟩ := pre_of_rep hrep
  have d5 : DiskSt w5 0 d sb (nilPtrs 20) 0 tr0 := H4.out.1.keep' fun ha => (ha.alloc _).below hb5 (Nat.lt_succ_of_lt ha.lt)
  clear hrep r1 q2
  have hSt : St w5 ⟨w4.heap.size + 1, w4.heap.size + 1, kk, w4.heap.size + 1 + 1, j, d, sb, la, ca, sa, vw, w.heap.size, nm, gs, en, clock⟩ 0 rc (.slice none 0 0) [] 0 0 (nilPtrs 20) 0 tr0 :=
    ⟨hk5, hj5, World.ownsRow_nil _ _ _ _, by show w.heap.size ≤ w5.heap.size; have := hb5.size; rw [size_alloc'] at this; omega, d5, H4.out.2.1, hS5, hP5⟩
  have hzs : w4.heap.size < w5.heap.size := by have := hb5.size; omega
  have H5 := Lib.hid (And.intro hSt (And.intro hb5 (And.intro hjz (And.intro hsaz (And.intro hld hls)))))
  clear hk5 hj5 hjz hkz hb5 hS5 hP5 hRz hsaR hsaz d5 hSt hld hls
  go_wp2_with fail
  refine (keeper_down _ _ kk _ j d _ _ false _ H5.out.1.hk H5.out.1.hj).mono ?_
  rintro e w5' ⟨rfl, rfl⟩
  go_wp2_with fail
  refine (do_one _ _ rc _ _ 0 0 _ 0 _ w5.heap.size (H5.out.1.alloc _) (reads_lit [255] _ 1 rfl (by simp [U8])) (by rw [nilPtrs_size]; decide) (by rw [nilPtrs_size]; decide) (by decide) (by simp [nilPtrs]) (by decide) (by decide) (by kernel_rfl)).mono ?_
  rintro e w6 ⟨p0, n0, c0, p1, n1, c1, p2, n2, c2, rfl, rv6, xs6, S6, hSt6, z6, hO6⟩
  have H6 := Lib.hid (And.intro hSt6 (And.intro z6 hO6))
  clear hSt6 hO6 z6
  go_wp2_with fail
  refine (do_two w6 _ _ rv6 xs6 1 1 _ (0 + 1) _ H6.out.1 (by simp [nilPtrs_size]) (by simp [nilPtrs_size]) (by decide) (by rw [Array.getElem?_setIfInBounds_ne (by decide)]; simp [nilPtrs]) (by decide) (by decide) (by rw [Array.getElem?_setIfInBounds_ne (by decide)]; kernel_rfl)).mono ?_
  rintro e w7 ⟨q0, m0, d0, q1, d1, q2, m2, d2, rfl, hK7, ⟨rv7, hJ7⟩, hS7, ⟨ps7, tr7, hD7⟩, z7, hO7⟩
  have H7 := Lib.hid (And.intro hK7 (And.intro hJ7 (And.intro hS7 (And.intro hD7 (And.intro z7 hO7)))))
  clear hK7 hJ7 hS7 hD7 hO7 z7
  go_wp2_with fail
  refine (keeper_see _ _ kk _ j d rv7 _ cfgA 0 1 nm _ _ gs _ (H7.out.1.alloc _) (H7.out.2.1.alloc _) (H7.out.2.2.1.keeps (fun ha _ => ha.alloc _) fun _ ha => ha.alloc _) ⟨by decide, by decide, by decide, by decide, by decide, by decide, by decide, by decide, by decide, by decide, by decide, by decide, by decide, by decide, by decide, by decide, by decide, by decide, by decide, by decide⟩).mono ?_
  rintro e w8 ⟨o, u, nx, rfl, ho8, hu8, hn8, hb8⟩
  obtain ⟨ao, co, rfl⟩ := own_any ho8
  obtain ⟨au, cu, rfl⟩ := own_any hu8
  obtain ⟨an, cn, rfl⟩ := own_any hn8
  clear ho8 hu8 hn8
  have hfd := sight_drops
  have H8 := Lib.hid hb8
  clear hb8
  go_wp2_with fail
  refine (disk_writes w8 d sb ps7 tr7 (0 + 1 + 1) ⟨(H7.out.2.2.2.1.1.alloc _).below H8.out (by have := H7.out.2.2.2.1.1.lt; rw [size_alloc']; omega), (H7.out.2.2.2.1.2.alloc _).below H8.out (by have := H7.out.2.2.2.1.2.lt; rw [size_alloc']; omega)⟩).mono ?_
  rintro e w9 ⟨rfl, rfl⟩
  go_wp2_with fail
  go_ret
  refine ⟨rfl, ?_⟩
  obtain ⟨h5a, h5b, h5c, h5d, h5e, h5f⟩ := H5.out
  have zw : w.heap.size ≤ w1.heap.size := z1
  have b4 : Below w.heap.size w w4 := H1.out.2.trans (H4.out.2.2.mono zw)
  have b5 : Below w.heap.size w w5 := (b4.alloc (by have := b4.size; omega) _).trans (h5b.mono (by have := b4.size; omega))
  have hm : ∀ m, m ≤ w4.heap.size → w.heap.size ≤ m → True := fun _ _ _ => trivial
  have zz := b4.size
  have b6 : Below w.heap.size w w6 := (b5.alloc (by have := b5.size; omega) _).trans (H6.out.2.2.below (by have := b5.size; rw [size_alloc']; omega) (by
    rintro i hi (rfl | rfl | rfl | h | rfl)
    · omega
    · omega
    · omega
    · simp [Value.ownBlock] at h
    · omega))
  have b7 : Below w.heap.size w w7 := b6.trans (H7.out.2.2.2.2.2.below b6.size (by
    rintro i hi (rfl | rfl | rfl | h | rfl)
    · omega
    · omega
    · omega
    · have hh : w.heap.size ≤ i := (H6.out.1.ho.lt i h).1
      omega
    · omega))
  exact (b7.alloc b7.size _).trans (H8.out.mono (by rw [size_alloc']; have := b7.size; omega))
end Go.Proofs.YtegdpagjloidnaaGreatDoor
