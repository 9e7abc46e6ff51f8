/- The two inputs of the example. -/
import Derived.Test.YtegdpagjloidnaaGreatDoorState
namespace Go.Proofs.YtegdpagjloidnaaGreatDoor
open Go.RowKit Go.Conc

theorem keeps_logd {ts : List TypeId} {w W : World} {lo lo' j d sb base k next : Nat} {rv : Value} {xs : List Value} {ps tr : Array Value} {wr : Int} (hL : Logd w W lo lo' j d sb base k rv next ps wr tr) (hj : JAt w lo j d rv next false) (hd : DiskSt w lo' d sb ps wr tr) (hr : w.ownsRow base 26 1 rv k xs)
    (h1 : 130 ∉ ts) (h2 : 86 ∉ ts) (h3 : 304 ∉ ts) (h4 : 26 ∉ ts) : Keeps ts w W :=
  Keeps.of_only hL.only fun i _ hi => by
    rcases hi with rfl | rfl | rfl | hi
    · exact ⟨_, _, hj.2, h1⟩
    · exact ⟨_, _, hd.1.2, h2⟩
    · exact ⟨_, _, hd.2.2, h3⟩
    · obtain ⟨cs, hc⟩ := own_no_freeze hr hi
      exact ⟨_, _, hc, h4⟩
theorem keeps_drop {ts : List TypeId} {W W2 : World} {B : Nat} {v : Int} (h : Drop1 B v W W2) {cs : Array Value} (hR : At W 0 (B + 7) (.cells cs 113)) (h1 : 113 ∉ ts) : Keeps ts W W2 := by
  intro lo i o ha hk
  refine ⟨ha.1, ?_⟩
  have hne : i ≠ B + 7 := by
    rintro rfl
    have := ha.2
    rw [hR.2] at this
    simp only [Option.some.injEq] at this
    exact h1 (hk _ _ this.symm)
  rw [h.block i ha.lt, Below.heap_setCell _ _ _ _ (by show i ≠ B + 7; exact hne)]
  exact ha.2
theorem keeps_box {ts : List TypeId} {W W2 : World} {S : Nat} {cs : Array Value} {T : TypeId} (h : Only (· = S) W W2) (hS : At W 0 S (.cells cs T)) (h1 : T ∉ ts) : Keeps ts W W2 :=
  Keeps.of_only h fun i _ hi => by subst hi; exact ⟨_, _, hS.2, h1⟩
theorem own_keeps {ts : List TypeId} {w w' : World} {base n : Nat} {e : TypeId} {v : Value} {xs : List Value} (h : w.ownsRow base e 1 v n xs) (hk : Keeps ts w w') (he : e ∈ ts) : w'.ownsRow base e 1 v n xs := by
  obtain ⟨h1, h2 | ⟨g, cap, cur, rfl, hb, hg, h3⟩⟩ := h
  · exact ⟨h1, Or.inl h2⟩
  · exact ⟨h1, Or.inr ⟨g, cap, cur, rfl, hb, (hk (lo := 0) ⟨Nat.zero_le _, hg⟩ (kd_cells he)).2, h3⟩⟩
theorem Keeps.sub {ts ts' : List TypeId} {w w' : World} (h : Keeps ts w w') (hs : ∀ t ∈ ts', t ∈ ts) : Keeps ts' w w' := fun ha hk => h ha fun cs T ho => hs _ (hk cs T ho)

/-- The example's keeper: its places. -/
structure Plc where
  (l0 lo kk B j d sb la ca sa vw b0 : Nat)
  (nm gs : Option Addr)
  en : MapEntry
  clock : Nat
/-- The example's keeper, behind some inputs. -/
structure St (w : World) (p : Plc) (drops : Int) (rc : Array Value) (rv : Value) (xs : List Value) (k next : Nat) (ps : Array Value) (wr : Int) (tr : Array Value) : Prop where
  hk : KAt w p.l0 p.kk p.B p.j
  hj : JAt w p.lo p.j p.d rv next false
  ho : w.ownsRow p.b0 26 1 rv k xs
  hb : p.b0 ≤ w.heap.size
  hd : DiskSt w 0 p.d p.sb ps wr tr
  hn : p.d ≠ p.sb
  hs : SeeAt w p.B cfgA 0 p.nm (some ⟨p.ca, 0, none⟩) (some ⟨p.vw, 0, none⟩) p.gs drops
  hp : Pre w (p.B + 7) (p.B + 2) p.la (p.B + 3) (p.B + 4) p.ca p.sa (p.B + 5) p.vw rc p.en p.clock 2 2 2 (2, 4, 2)
def restTs : List TypeId := [172, 179, 185, 190, 3, 200, 94]
theorem St.row {w : World} {p : Plc} {drops : Int} {rc : Array Value} {rv : Value} {xs : List Value} {k next : Nat} {ps : Array Value} {wr : Int} {tr : Array Value} (h : St w p drops rc rv xs k next ps wr tr) : At w 0 (p.B + 7) (.cells rc 113) := h.hp.idle.one.r

theorem St.alloc {w : World} {p : Plc} {drops : Int} {rc : Array Value} {rv : Value} {xs : List Value} {k next : Nat} {ps : Array Value} {wr : Int} {tr : Array Value} (h : St w p drops rc rv xs k next ps wr tr) (o : Obj) : St (w.alloc o) p drops rc rv xs k next ps wr tr :=
  ⟨h.hk.alloc _, h.hj.alloc _, h.ho.alloc _, by rw [size_alloc']; exact Nat.le_succ_of_le h.hb, ⟨h.hd.1.alloc _, h.hd.2.alloc _⟩, h.hn, h.hs.keeps (fun ha _ => ha.alloc _) fun _ ha => ha.alloc _, h.hp.only ((Only.refl _ w).alloc _)⟩
theorem enc1 : (Inp.ofData 3 [255]).enc = ([3, 255], 0) := by
  unfold Inp.enc
  rw [if_neg (by simp [Inp.is, Inp.ofData, Inp.blank]), if_neg (by decide), if_neg (by decide)]
  rfl

set_option maxHeartbeats 1000000 in
/-- A frame of one byte comes: it is dropped. -/
theorem do_one (w : World) (p : Plc) (rc : Array Value) (rv : Value) (xs : List Value) (k next : Nat) (ps : Array Value) (wr : Int) (tr : Array Value) (S : Nat) (h : St w p 0 rc rv xs k next ps wr tr) (hd : Reads w (.slice (some ⟨S, 0, none⟩) 1 1) [255]) (h1 : next < ps.size) (h2 : ps.size ≤ 65536) (h3 : k ≤ 100000) (h4 : ps[next]? = some (.pointer none)) (h5 : 0 ≤ wr) (h6 : wr ≤ 100000) (h7 : tr[(wr % 64).toNat]? = some (.int .i64 0)) :
    Calls Tryz.prog 20 #[.pointer (some ⟨p.kk, 0, none⟩), .agg #[.int .i64 3, .int .i64 0, .int .i64 0, .int .i64 0, .string ByteArray.empty, .int .i64 0, .int .i64 0, .slice (some ⟨S, 0, none⟩) 1 1]] w fun e w' =>
      ∃ p0 n0 c0 p1 n1 c1 p2 n2 c2, e = .returned (.tuple #[.agg #[.slice p0 n0 c0, .slice p1 n1 c1, .slice p2 n2 c2], .int .i64 10]) ∧ ∃ rv' xs' S', St w' p 1 (rc.setIfInBounds 21 (.int .i64 1)) rv' xs' (k + 1) (next + 1) (ps.setIfInBounds next (.pointer (some ⟨S', 0, none⟩))) (wr + 1) (tr.setIfInBounds (wr % 64).toNat (.int .i64 next)) ∧ w.heap.size ≤ w'.heap.size ∧
        Only (fun i => i = p.j ∨ i = p.d ∨ i = p.sb ∨ rv.ownBlock = some i ∨ i = p.B + 7) w w' := by
  refine (keeper_do w p.l0 p.lo 0 p.kk p.B p.j p.d p.sb p.b0 k rv xs next 0 ps wr tr (Inp.ofData 3 [255]) (.slice (some ⟨S, 0, none⟩) 1 1) [3, 255] h.hk h.hj h.hd h1 h2 h.ho h.hb h3 h4 h5 h6 h7 h.hn hd (by decide) (by decide) ⟨by decide, by decide⟩ ⟨by decide, by decide⟩ ⟨by decide, by decide⟩ ⟨by decide, by decide⟩ ⟨by decide, by decide⟩ enc1 (by decide) (by decide) (fun n1 er W W' => er = 10 ∧ Drop1 p.B 1 W W') ?_).mono ?_
  · intro W hL hK
    have kp : Keeps seeTs w W := keeps_logd hL h.hj h.hd h.ho (by decide) (by decide) (by decide) (by decide)
    have kr : Keeps [113] w W := keeps_logd hL h.hj h.hd h.ho (by decide) (by decide) (by decide) (by decide)
    have hS := h.hs.keeps kp fun cs ha => kr ha (kd_cells (by decide))
    refine (hand_frame W p.l0 p.kk p.B p.j cfgA 0 0 p.nm _ _ p.gs (some ⟨S, 0, none⟩) 1 1 hK hS (by decide) (by decide) (by decide)).mono ?_
    rintro e W' ⟨rfl, hdr⟩
    refine ⟨none, 0, 0, none, 0, 0, none, 0, 0, 10, rfl, ⟨hdr.os, hdr.tape, hdr.output, hdr.size, fun i hi hn => ?_⟩, rfl, hdr⟩
    rw [hdr.block i hi, Below.heap_setCell _ _ _ _ (by show i ≠ p.B + 7; have := h.row.lt; omega)]
  · rintro e w' ⟨p0, n0, c0, p1, n1, c1, p2, n2, c2, er, rfl, W, W2, hL, ⟨rfl, hdr⟩, hO, cs, hbox⟩
    obtain ⟨rv', xs', hj', ho'⟩ := hL.jt
    obtain ⟨S', hd'⟩ := hL.dt
    have kr : Keeps [113] w W := keeps_logd hL h.hj h.hd h.ho (by decide) (by decide) (by decide) (by decide)
    have hRW := kr h.row (kd_cells (by decide))
    have k1 : Keeps restTs w W := keeps_logd hL h.hj h.hd h.ho (by decide) (by decide) (by decide) (by decide)
    have k2 : Keeps (restTs ++ [130, 86, 304, 26]) W W2 := keeps_drop hdr hRW (by decide)
    have k3 : Keeps (restTs ++ [130, 86, 304, 26, 113]) W2 w' := keeps_box hO hbox (by decide)
    have k23 : Keeps (restTs ++ [130, 86, 304, 26]) W w' := k2.trans (k3.sub (by decide))
    have kall : Keeps restTs w w' := k1.trans (k23.sub (by decide))
    have hS := (h.hs.keeps (k1.sub (by decide)) fun cs ha => kr ha (kd_cells (by decide)))
    have hS2 := (hdr.see hS).keeps (k3.sub (by decide)) fun cs ha => k3 ha (kd_cells (by decide))
    have hR2 : At W2 0 (p.B + 7) (.cells (rc.setIfInBounds 21 (.int .i64 1)) 113) := ⟨Nat.zero_le _, by rw [hdr.block _ hRW.lt]; exact (hRW.setCell 21 (.int .i64 1)).2⟩
    have hR3 := k3 hR2 (kd_cells (by decide))
    refine ⟨p0, n0, c0, p1, n1, c1, p2, n2, c2, rfl, rv', xs', S', ⟨kall h.hk (kd_cells (by decide)), ?_, own_keeps ho' k23 (by decide), Nat.le_trans h.hb (Nat.le_trans hL.only.size (Nat.le_trans hdr.size hO.size)), ⟨k23 hd'.1 (kd_cells (by decide)), k23 hd'.2 (kd_cells (by decide))⟩, h.hn, hS2, h.hp.keeps (kall.sub (by decide)) hR3 fun i hi => Array.getElem?_setIfInBounds_ne (Ne.symm hi)⟩, Nat.le_trans hL.only.size (Nat.le_trans hdr.size hO.size), ?_⟩
    · exact k23 hj' (kd_cells (by decide))
    · refine ⟨hO.os.trans (hdr.os.trans hL.only.os), hO.tape.trans (hdr.tape.trans hL.only.tape), hO.output.trans (hdr.output.trans hL.only.output), Nat.le_trans hL.only.size (Nat.le_trans hdr.size hO.size), fun i hi hn => ?_⟩
      have hiW : i < W.heap.size := Nat.lt_of_lt_of_le hi hL.only.size
      rw [hO.block i (Nat.lt_of_lt_of_le hiW hdr.size) (by omega), hdr.block i hiW, Below.heap_setCell _ _ _ _ (by show i ≠ p.B + 7; exact fun hh => hn (Or.inr (Or.inr (Or.inr (Or.inr hh)))))]
      exact hL.only.block i hi (fun hh => hn (by rcases hh with h | h | h | h <;> simp [h]))

def xLook : Inp := ⟨1, 0, 1, 11, ⟨#[107]⟩, 0, 0, []⟩
theorem uv (n : Nat) : Lib.uvarint n = if n < 128 then [n.toUInt8] else (n % 128 + 128).toUInt8 :: Lib.uvarint (n / 128) := by
  by_cases h : n < 128
  · rw [if_pos h, Lib.uvarint_small h]
  · rw [if_neg h, Lib.uvarint_big (by omega)]
theorem enc2 : xLook.enc = ([1, 0, 2, 22, 0, 0, 107], 0) := by
  have e0 : putNum 0 = [0] := by unfold putNum; rw [show Lib.zigzag 0 = 0 from rfl, uv]; rfl
  have e1 : putNum 1 = [2] := by unfold putNum; rw [show Lib.zigzag 1 = 2 from rfl, uv]; rfl
  have e2 : putNum 11 = [22] := by unfold putNum; rw [show Lib.zigzag 11 = 22 from rfl, uv]; rfl
  have hb : xLook.bytes = [1, 0, 2, 22, 0, 0, 107] := by
    simp only [Inp.bytes, Inp.head, Inp.nums, xLook, e0, e1, e2]; rfl
  unfold Inp.enc
  rw [if_neg (by simp [xLook, Inp.is]), if_neg (by decide), if_neg (by rw [hb]; decide), hb]

set_option maxHeartbeats 1000000 in
/-- The look comes. -/
theorem do_two (w : World) (p : Plc) (rc : Array Value) (rv : Value) (xs : List Value) (k next : Nat) (ps : Array Value) (wr : Int) (tr : Array Value) (h : St w p 1 rc rv xs k next ps wr tr) (h1 : next < ps.size) (h2 : ps.size ≤ 65536) (h3 : k ≤ 100000) (h4 : ps[next]? = some (.pointer none)) (h5 : 0 ≤ wr) (h6 : wr ≤ 100000) (h7 : tr[(wr % 64).toNat]? = some (.int .i64 0)) :
    Calls Tryz.prog 20 #[.pointer (some ⟨p.kk, 0, none⟩), .agg #[.int .i64 1, .int .i64 0, .int .i64 1, .int .i64 11, .string ⟨#[107]⟩, .int .i64 0, .int .i64 0, .slice none 0 0]] w fun e w' =>
      ∃ p0 n0 c0 p1 c1 p2 n2 c2, e = .returned (.tuple #[.agg #[.slice p0 n0 c0, .slice p1 1 c1, .slice p2 n2 c2], .int .i64 0]) ∧ KAt w' p.l0 p.kk p.B p.j ∧ (∃ rv', JAt w' p.lo p.j p.d rv' ((next : Int) + 1) false) ∧ SeeAt w' p.B cfgA 0 p.nm (some ⟨p.ca, 0, none⟩) (some ⟨p.vw, 0, none⟩) p.gs 1 ∧
        (∃ ps' tr', DiskSt w' 0 p.d p.sb ps' (wr + 1) tr') ∧ w.heap.size ≤ w'.heap.size ∧ Only (fun i => i = p.j ∨ i = p.d ∨ i = p.sb ∨ rv.ownBlock = some i ∨ i = p.sa) w w' := by
  refine (keeper_do w p.l0 p.lo 0 p.kk p.B p.j p.d p.sb p.b0 k rv xs next 0 ps wr tr xLook (.slice none 0 0) [1, 0, 2, 22, 0, 0, 107] h.hk h.hj h.hd h1 h2 h.ho h.hb h3 h4 h5 h6 h7 h.hn (Or.inl ⟨rfl, rfl⟩) (by decide) (by decide) ⟨by decide, by decide⟩ ⟨by decide, by decide⟩ ⟨by decide, by decide⟩ ⟨by decide, by decide⟩ ⟨by decide, by decide⟩ enc2 (by decide) (by decide) (fun n1 er W W' => n1 = 1 ∧ er = 0 ∧ At W' 0 (p.B + 7) (.cells rc 113) ∧ Only (· = p.sa) W W') ?_).mono ?_
  · intro W hL hK
    have k1 : Keeps preTs w W := keeps_logd hL h.hj h.hd h.ho (by decide) (by decide) (by decide) (by decide)
    have kr : Keeps [113] w W := keeps_logd hL h.hj h.hd h.ho (by decide) (by decide) (by decide) (by decide)
    have hP := h.hp.keeps k1 (kr h.row (kd_cells (by decide))) fun _ _ => rfl
    refine (hand_call W p.l0 p.kk p.B p.j _ _ _ _ _ _ _ _ rc p.en p.clock 2 2 2 (2, 4, 2) hK hP).mono ?_
    rintro e W' ⟨g2, c2, rfl, hR, hO⟩
    refine ⟨none, 0, 0, some ⟨g2, 0, none⟩, 1, c2, none, 0, 0, 0, rfl, hO.mono fun i _ hi => ?_, rfl, rfl, hR, hO⟩
    subst hi; exact h.hp.s.lt
  · rintro e w' ⟨p0, n0, c0, p1, n1, c1, p2, n2, c2, er, rfl, W, W2, hL, ⟨rfl, rfl, hR, hO2⟩, hO, cs, hbox⟩
    obtain ⟨rv', xs', hj', ho'⟩ := hL.jt
    obtain ⟨S', hd'⟩ := hL.dt
    have kr : Keeps [113] w W := keeps_logd hL h.hj h.hd h.ho (by decide) (by decide) (by decide) (by decide)
    have k1 : Keeps restTs w W := keeps_logd hL h.hj h.hd h.ho (by decide) (by decide) (by decide) (by decide)
    have hsW := k1 h.hp.s (kd_cells (by decide))
    have k2 : Keeps [172, 200, 94, 130, 86, 304, 113] W W2 :=
      Keeps.of_only hO2 fun i _ hi => by subst hi; exact ⟨_, _, hsW.2, by decide⟩
    have k3 : Keeps [172, 200, 94, 130, 86, 304, 113] W2 w' := keeps_box hO hbox (by decide)
    have k23 : Keeps [172, 200, 94, 130, 86, 304, 113] W w' := Keeps.trans k2 k3
    have hS := ((h.hs.keeps (k1.sub (by decide)) fun cs ha => kr ha (kd_cells (by decide))).keeps (k23.sub (by decide)) fun cs ha => k23 ha (kd_cells (by decide)))
    refine ⟨p0, n0, c0, p1, c1, p2, n2, c2, rfl, k23 (k1 h.hk (kd_cells (by decide))) (kd_cells (by decide)), ⟨rv', k23 hj' (kd_cells (by decide))⟩, hS, ⟨_, _, k23 hd'.1 (kd_cells (by decide)), k23 hd'.2 (kd_cells (by decide))⟩, Nat.le_trans hL.only.size (Nat.le_trans hO2.size hO.size), ?_⟩
    refine ⟨hO.os.trans (hO2.os.trans hL.only.os), hO.tape.trans (hO2.tape.trans hL.only.tape), hO.output.trans (hO2.output.trans hL.only.output), Nat.le_trans hL.only.size (Nat.le_trans hO2.size hO.size), fun i hi hn => ?_⟩
    have hiW : i < W.heap.size := Nat.lt_of_lt_of_le hi hL.only.size
    rw [hO.block i (Nat.lt_of_lt_of_le hiW hO2.size) (by omega), hO2.block i hiW (fun hh => hn (Or.inr (Or.inr (Or.inr (Or.inr hh)))))]
    exact hL.only.block i hi (fun hh => hn (by rcases hh with h | h | h | h <;> simp [h]))

theorem disk_writes (w : World) (d sb : Nat) (ps tr : Array Value) (wr : Int) (h : DiskSt w 0 d sb ps wr tr) : Calls Tryz.prog 22 #[.pointer (some ⟨d, 0, none⟩)] w fun e w' => e = .returned (.int .i64 wr) ∧ w = w' := by
  obtain ⟨c0, c1, c2, c5⟩ := disk_row h.1.2
  clear h
  go_enter Tryz.func22, Tryz.ntmps22
  go_wp2
  go_ret
  exact ⟨rfl, rfl⟩
end Go.Proofs.YtegdpagjloidnaaGreatDoor
