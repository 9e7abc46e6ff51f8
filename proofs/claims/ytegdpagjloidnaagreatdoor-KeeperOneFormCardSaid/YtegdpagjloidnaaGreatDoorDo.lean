/- Keeper.Do of a short input, whatever the replica does with it. -/
import Derived.Test.YtegdpagjloidnaaGreatDoorHand
import Derived.Test.YtegdpagjloidnaaGreatDoorAppend
namespace Go.Proofs.YtegdpagjloidnaaGreatDoor
open Go.RowKit Go.Conc

/-- A record was written: what is known of the world behind it. -/
structure Logd (w W : World) (lo lo' j d sb base k : Nat) (rv : Value) (next : Nat) (ps : Array Value) (wr : Int) (tr : Array Value) : Prop where
  jt : ∃ rv' xs', JAt W lo j d rv' ((next : Int) + 1) false ∧ W.ownsRow base 26 1 rv' (k + 1) xs'
  dt : ∃ S, DiskSt W lo' d sb (ps.setIfInBounds next (.pointer (some ⟨S, 0, none⟩))) (wr + 1) (tr.setIfInBounds (wr % 64).toNat (.int .i64 next))
  only : Only (fun i => i = j ∨ i = d ∨ i = sb ∨ rv.ownBlock = some i) w W
theorem Logged.logd {w W1 W : World} {lo lo' j d sb base k : Nat} {rv : Value} {next : Nat} {ps : Array Value} {wr : Int} {tr : Array Value} (h : Logged W1 W lo lo' j d sb base k rv next ps wr tr) (ho : Only (fun _ => False) w W1) : Logd w W lo lo' j d sb base k rv next ps wr tr :=
  ⟨h.jt, h.dt, (ho.mono (q := fun i => i = j ∨ i = d ∨ i = sb ∨ rv.ownBlock = some i) fun _ _ h => h.elim).trans ⟨h.os, h.tape, h.output, h.size, fun i hi hn => h.block i hi (fun hh => hn (Or.inl hh)) (fun hh => hn (Or.inr (Or.inl hh))) (fun hh => hn (Or.inr (Or.inr (Or.inl hh)))) (fun hh => hn (Or.inr (Or.inr (Or.inr hh))))⟩⟩

theorem own_only {w w' : World} {base n sz : Nat} {e : TypeId} {v : Value} {xs : List Value} (h : w.ownsRow base e sz v n xs) {p : Nat → Prop} (ho : Only p w w') (hp : ∀ g, v.ownBlock = some g → ¬ p g) : w'.ownsRow base e sz v n xs := by
  obtain ⟨h1, h2 | ⟨g, cap, cur, rfl, hb, hg, h3⟩⟩ := h
  · exact ⟨h1, Or.inl h2⟩
  · exact ⟨h1, Or.inr ⟨g, cap, cur, rfl, hb, by rw [ho.block g (lt_of_heap hg) (hp g rfl)]; exact hg, h3⟩⟩

set_option maxHeartbeats 4000000 in
set_option maxRecDepth 100000 in
theorem keeper_do (w : World) (l0 lo lo' kk B j d sb base k : Nat) (rv : Value) (xs : List Value) (next : Nat) (t0 : Int) (ps : Array Value) (wr : Int) (tr : Array Value) (x : Inp) (dv : Value) (bs : List UInt8)
    (hk : KAt w l0 kk B j) (hj : JAt w lo j d rv next false) (hd : DiskSt w lo' d sb ps wr tr) (h1 : next < ps.size) (hn : ps.size ≤ 65536) (hr : w.ownsRow base 26 1 rv k xs) (hbase : base ≤ w.heap.size) (hkk : k ≤ 100000) (hp : ps[next]? = some (.pointer none)) (hw0 : 0 ≤ wr) (hw1 : wr ≤ 100000) (ht : tr[(wr % 64).toNat]? = some (.int .i64 t0)) (hne : d ≠ sb)
    (hda : Reads w dv x.data) (hl : x.data.length ≤ 65536) (hnm : x.name.size ≤ 65536) (i1 : I64 x.ses) (i2 : I64 x.id) (i3 : I64 x.ok) (i4 : I64 x.a) (i5 : I64 x.b) (henc : x.enc = (bs, 0)) (hb0 : 0 < bs.length) (hb1 : bs.length ≤ 496)
    (R : Nat → Int → World → World → Prop)
    (hand : ∀ W, Logd w W lo lo' j d sb base k rv next ps wr tr → KAt W l0 kk B j → Calls Tryz.prog 36 #[.pointer (some ⟨kk, 0, none⟩), .agg (x.vals dv)] W fun e W' => ∃ p0 n0 c0 p1 n1 c1 p2 n2 c2 er, e = .returned (.tuple #[.agg #[.slice p0 n0 c0, .slice p1 n1 c1, .slice p2 n2 c2], .int .i64 er]) ∧ Only (fun i => i < w.heap.size) W W' ∧ R n1 er W W') :
    Calls Tryz.prog 20 #[.pointer (some ⟨kk, 0, none⟩), .agg (x.vals dv)] w fun e w' => ∃ p0 n0 c0 p1 n1 c1 p2 n2 c2 er, e = .returned (.tuple #[.agg #[.slice p0 n0 c0, .slice p1 n1 c1, .slice p2 n2 c2], .int .i64 er]) ∧ ∃ W W2, Logd w W lo lo' j d sb base k rv next ps wr tr ∧ R n1 er W W2 ∧ Only (· = w.heap.size + 1) W2 w' ∧ (∃ cs, At W2 0 (w.heap.size + 1) (.cells cs 61)) := by
  have HH := Lib.hid (And.intro hk (And.intro hj (And.intro hd (And.intro hr (And.intro hp (And.intro ht (And.intro hda henc)))))))
  have HAND := Lib.hid hand
  have hI := Lib.hid (And.intro i1 (And.intro i2 (And.intro i3 (And.intro i4 i5))))
  have nkj : kk ≠ j := by rintro rfl; have := hk.2; rw [hj.2] at this; simp at this
  have nkd : kk ≠ d := by rintro rfl; have := hk.2; rw [hd.1.2] at this; simp at this
  have nks : kk ≠ sb := by rintro rfl; have := hk.2; rw [hd.2.2] at this; simp at this
  have nkr : rv.ownBlock ≠ some kk := by
    intro hh
    obtain ⟨c, fz, h2⟩ := Lib.ownsRow_kind hr kk hh
    rw [hk.2] at h2; simp at h2
  have zk := hk.lt
  have zj := hj.lt
  have zd := hd.1.lt
  have zs := hd.2.lt
  clear hk hj hd hr hp ht hda henc hand i1 i2 i3 i4 i5
  unfold Inp.vals
  go_enter Tryz.func20, Tryz.ntmps20
  go_wp2_with fail
  refine (keeper_down l0 lo kk B j d rv next false _ ((HH.out.1.alloc _).alloc _) ((HH.out.2.1.alloc _).alloc _)).mono ?_
  rintro e w1 ⟨rfl, rfl⟩
  go_wp2_with fail
  refine (keeper_encode x dv _ (HH.out.2.2.2.2.2.2.1.below (((Below.refl _ _).alloc (Nat.le_refl _) _).alloc (by rw [size_alloc']; omega) _) (Nat.le_refl _)) hl hnm hI.out.1 hI.out.2.1 hI.out.2.2.1 hI.out.2.2.2.1 hI.out.2.2.2.2).mono ?_
  rintro e w2 ⟨v, rfl, ho, hb⟩
  rw [HH.out.2.2.2.2.2.2.2] at ho ⊢
  obtain ⟨g, cap, rfl⟩ := Joins.ownsRow_form ho hb0
  have b1 : At w2 0 w.heap.size (.cells (x.vals dv) 34) := ((At.new' (Nat.zero_le _) rfl _).alloc _).below hb (by rw [size_alloc', size_alloc']; omega)
  have b2 : At w2 0 (w.heap.size + 1) (.cells #[.slice none 0 0, .slice none 0 0, .slice none 0 0] 61) := (At.new' (Nat.zero_le _) (by rw [size_alloc']) _).below hb (by rw [size_alloc', size_alloc']; omega)
  have o2 : Only (fun _ => False) w w2 := (((Only.refl _ w).alloc _).alloc _).trans (Only.of_below hb (by rw [size_alloc', size_alloc']; exact Nat.le_refl _))
  have hgz : w.heap.size + 2 ≤ g := by
    obtain ⟨-, hh | ⟨g', cap', cur, hv, hbb, hg, -⟩⟩ := ho
    · simp at hh
    · simp at hv; obtain ⟨rfl, rfl⟩ := hv; rw [size_alloc', size_alloc'] at hbb; exact hbb
  have hgl : g < w2.heap.size := (ho.lt g rfl).2
  have qk := row_cells (HH.out.1.only o2 id).2
  have HW2 := Lib.hid (And.intro ho (And.intro b1 (And.intro b2 o2)))
  clear ho hb b1 b2 o2
  go_wp2_with fail
  refine (journal_append w2 lo lo' j d sb base k bs.length cap g 0 rv xs next t0 ps wr tr bs (HH.out.2.1.only HW2.out.2.2.2 id) ⟨HH.out.2.2.1.1.only HW2.out.2.2.2 id, HH.out.2.2.1.2.only HW2.out.2.2.2 id⟩ h1 hn (own_only HH.out.2.2.2.1 HW2.out.2.2.2 fun _ _ h => h) (Nat.le_trans hbase HW2.out.2.2.2.size) hkk (reads_own (by exact HW2.out.1)) hgl (by omega) (by omega) hb1 HH.out.2.2.2.2.1 hw0 hw1 HH.out.2.2.2.2.2.1 hne).mono ?_
  rintro e w3 ⟨rfl, hlog⟩
  have hL := hlog.logd HW2.out.2.2.2
  have hrb : ∀ i, rv.ownBlock = some i → i < w.heap.size := fun i hi => (HH.out.2.2.2.1.lt i hi).2
  have hK3 : KAt w3 l0 kk B j := HH.out.1.only hL.only (by rintro (h | h | h | h); exact nkj h; exact nkd h; exact nks h; exact nkr h)
  have b1 : At w3 0 w.heap.size (.cells (x.vals dv) 34) := ⟨Nat.zero_le _, by rw [hlog.block _ HW2.out.2.1.lt (by omega) (by omega) (by omega) (fun h => by have := hrb _ h; omega)]; exact HW2.out.2.1.2⟩
  have b2 : At w3 0 (w.heap.size + 1) (.cells #[.slice none 0 0, .slice none 0 0, .slice none 0 0] 61) := ⟨Nat.zero_le _, by rw [hlog.block _ HW2.out.2.2.1.lt (by omega) (by omega) (by omega) (fun h => by have := hrb _ h; omega)]; exact HW2.out.2.2.1.2⟩
  clear qk
  have qi := row_cells b1.2
  unfold Inp.vals at qi
  have HA := Lib.hid (HAND.out w3 hL hK3)
  have HL := Lib.hid (And.intro hL b2)
  have zb3 := b2.lt
  clear hlog hL hK3 b1 b2
  go_wp2_with fail
  refine HA.out.mono ?_
  rintro e w4 ⟨p0, n0, c0, p1, n1, c1, p2, n2, c2, er, rfl, o4, hR⟩
  have b4 := HL.out.2.only o4 (by omega)
  have q4 := row_cells b4.2
  have f4 := row_free b4.2
  have z4 := b4.lt
  have HF := Lib.hid (And.intro b4 hR)
  clear b4 hR o4 qi
  go_wp2_with fail
  obtain ⟨b4, hR⟩ := HF.out
  have hF := ((b4.setCell 0 (.slice p0 n0 c0)).setCell 1 (.slice p1 n1 c1)).setCell 2 (.slice p2 n2 c2)
  refine bodyPost_ret (results_row_tmp rfl _ _ (w.heap.size + 1) _ _ (0, 0) _ rfl hF.2 Tryz.underlying61 rfl (by kernel_rfl)) rfl ⟨p0, n0, c0, p1, n1, c1, p2, n2, c2, er, rfl, w3, w4, HL.out.1, hR, ?_, _, b4⟩
  exact (((Only.refl (· = w.heap.size + 1) w4).setCell (k := w.heap.size + 1) (Or.inl rfl) 0 none (.slice p0 n0 c0)).setCell (k := w.heap.size + 1) (Or.inl rfl) 1 none (.slice p1 n1 c1)).setCell (k := w.heap.size + 1) (Or.inl rfl) 2 none (.slice p2 n2 c2)
end Go.Proofs.YtegdpagjloidnaaGreatDoor
