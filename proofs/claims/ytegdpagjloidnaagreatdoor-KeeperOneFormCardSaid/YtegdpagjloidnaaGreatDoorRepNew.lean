/- replica.New. -/
import Derived.Test.YtegdpagjloidnaaGreatDoorConf
import Derived.Test.YtegdpagjloidnaaGreatDoorCache
namespace Go.Proofs.YtegdpagjloidnaaGreatDoor
open Go.RowKit Go.Conc

theorem link_law : KeyLaw Tryz.prog 3 (Value.int .i64) := keyLaw_int Tryz.underlying3

def repCells (c : Cfg) (me : Int) (lk ot ct tm cl : Nat) (nm ca vw gs wh : Option Addr) (drops : Int) : Array Value :=
  #[.int .i64 c.rep, .int .i64 c.win, .int .i64 c.res, .int .i64 c.tmo, .int .i64 c.que, .int .i64 c.cac, .int .i64 c.cnt, .int .i64 c.hol, .int .i64 c.ses, .int .i64 c.bag,
    .int .i64 me, .map (some lk), .map (some ot), .map (some ct), .pointer nm, .pointer ca, .pointer vw, .pointer gs, .pointer wh, .map (some tm), .map (some cl), .int .i64 drops,
    .slice none 0 0, .slice none 0 0, .slice none 0 0]

/-- The other replicas below k. -/
def others (me : Int) (k : Nat) : List Int := ((List.range k).map fun j : Nat => (j : Int)).filter fun j => j ≠ me
def LinksAt (w : World) (B lo b : Nat) (me win res : Int) (k : Nat) : Prop :=
  ∃ l, MapAt w B b (Value.int .i64) l ∧ l.map (·.1) = others me k ∧ ∀ p ∈ l, ∃ a, p.2 = .pointer (some ⟨a, 0, none⟩) ∧ LinkAt w lo a me p.1 win res
def errCells : Array Value := #[.int .i64 0, .int .i64 0, .int .i64 0, .int .i64 0, .int .i64 0, .int .i64 0]

/-- A replica at B + 7 of which all is there that is to be seen, and that knows no counter; its parts lie behind it. -/
def SeeAt (w : World) (B : Nat) (c : Cfg) (me : Int) (nm ca vw gs : Option Addr) (drops : Int) : Prop :=
  ∃ wh, At w B (B + 7) (.cells (repCells c me (B + 2) (B + 3) (B + 4) (B + 5) (B + 6) nm ca vw gs (some ⟨wh, 0, none⟩) drops) 113) ∧
    LinksAt w B (B + 9) (B + 2) me c.win c.res c.rep.toNat ∧ At w B (B + 3) (.map #[] 0) ∧ At w B (B + 4) (.map #[] 0) ∧ At w B (B + 5) (.map #[] 0) ∧ At w B (B + 6) (.map #[] 0) ∧ WheelAt w (B + 9) wh
/-- A new replica. -/
def RepAt (w : World) (B : Nat) (c : Cfg) (me : Int) : Prop :=
  ∃ nm ca vw gs, SeeAt w B c me (some ⟨nm, 0, none⟩) (some ⟨ca, 0, none⟩) (some ⟨vw, 0, none⟩) (some ⟨gs, 0, none⟩) 0 ∧
    NamesAt w (B + 9) nm me c.rep c.cnt ∧ CacheAt w (B + 9) ca me c.rep c.ses c.cac ∧ ViewsAt w (B + 9) vw me c.rep ∧ GossipAt w (B + 9) gs me c.rep

theorem others_fresh {me : Int} {k : Nat} {l : List (Int × Value)} (h : l.map (·.1) = others me k) (i : Nat) : findIx (k : Int) l i = none := by
  have key : ∀ p ∈ l, p.1 ≠ (k : Int) := by
    intro p hp
    have : p.1 ∈ others me k := by rw [← h]; exact List.mem_map_of_mem hp
    simp only [others, List.mem_filter, List.mem_map, List.mem_range] at this
    obtain ⟨⟨j, hj, he⟩, _⟩ := this
    omega
  clear h
  induction l generalizing i with
  | nil => rfl
  | cons p l ih =>
    have h1 := key p (by simp)
    simp only [findIx]
    rw [if_neg (fun hh => h1 hh.symm)]
    exact ih (i + 1) (fun q hq => key q (by simp [hq]))

/-- The replica in the making: its links to the first k replicas are there. -/
def RepMid (B : Nat) (c : Cfg) (me : Int) (k cb lk ot ct tm cl r er : Nat) (w wr : World) : Prop :=
  ∃ (l : List (Int × Value)) (es : Array MapEntry) (clock : Nat),
    At wr B cb (.cells c.vals 53) ∧ At wr B lk (.map es clock) ∧ At wr B ot (.map #[] 0) ∧ At wr B ct (.map #[] 0) ∧ At wr B tm (.map #[] 0) ∧ At wr B cl (.map #[] 0) ∧
    At wr B r (.cells (repCells c me lk ot ct tm cl none none none none none 0) 113) ∧ At wr B er (.cells errCells 114) ∧
    Ents (Value.int .i64) l es.toList ∧ Born es clock ∧ l.map (·.1) = others me k ∧ (∀ p ∈ l, ∃ a, p.2 = .pointer (some ⟨a, 0, none⟩) ∧ LinkAt wr (er + 1) a me p.1 c.win c.res) ∧ Below B w wr

theorem others_succ_me {me : Int} {k : Nat} (h : (k : Int) = me) : others me (k + 1) = others me k := by
  simp [others, List.range_succ, h]
theorem others_succ {me : Int} {k : Nat} (h : ¬ (k : Int) = me) : others me (k + 1) = others me k ++ [(k : Int)] := by
  simp [others, List.range_succ, h]

theorem repMid_step {B : Nat} {c : Cfg} {me : Int} {k cb lk ot ct tm cl r er : Nat} {w wr w1 : World} {l : List (Int × Value)} {es : Array MapEntry} {clock : Nat}
    (hB : B ≤ lk) (o1 : cb < lk) (o2 : lk < ot) (o3 : ot < ct) (o4 : ct < tm) (o5 : tm < cl) (o6 : cl < r) (o7 : r < er)
    (hP : At wr B cb (.cells c.vals 53) ∧ At wr B lk (.map es clock) ∧ At wr B ot (.map #[] 0) ∧ At wr B ct (.map #[] 0) ∧ At wr B tm (.map #[] 0) ∧ At wr B cl (.map #[] 0) ∧
      At wr B r (.cells (repCells c me lk ot ct tm cl none none none none none 0) 113) ∧ At wr B er (.cells errCells 114))
    (hM : Ents (Value.int .i64) l es.toList ∧ Born es clock ∧ l.map (·.1) = others me k ∧ (∀ p ∈ l, ∃ a, p.2 = .pointer (some ⟨a, 0, none⟩) ∧ LinkAt wr (er + 1) a me p.1 c.win c.res) ∧ Below B w wr)
    (hne : ¬ (k : Int) = me) (hla : LinkAt w1 wr.heap.size (wr.heap.size + 2) me k c.win c.res) (hb1 : Below wr.heap.size wr.drew w1) :
    RepMid B c me (k + 1) cb lk ot ct tm cl r er w ((putMap w1 lk (es.push { key := .int .i64 k, val := .pointer (some ⟨wr.heap.size + 2, 0, none⟩), born := clock }) (clock + 1)).setCell ⟨er, 0, none⟩ (.int .i64 0)) := by
  obtain ⟨p1, p2, p3, p4, p5, p6, p7, p8⟩ := hP
  obtain ⟨hents, hborn, hl, hlinks, hbel⟩ := hM
  have go : ∀ {j : Nat} {o : Obj}, At wr B j o → j ≠ lk → j ≠ er → At ((putMap w1 lk (es.push { key := .int .i64 k, val := .pointer (some ⟨wr.heap.size + 2, 0, none⟩), born := clock }) (clock + 1)).setCell ⟨er, 0, none⟩ (.int .i64 0)) B j o :=
    fun h h1 h2 => (((At.below (w := wr.drew) h hb1 h.lt).putMap_ne h1 _ _).setCell_ne h2 _ _ _)
  have hsame : Same (er + 1) w1 ((putMap w1 lk (es.push { key := .int .i64 k, val := .pointer (some ⟨wr.heap.size + 2, 0, none⟩), born := clock }) (clock + 1)).setCell ⟨er, 0, none⟩ (.int .i64 0)) :=
    (Same.putMap _ (by omega) _ _).trans (Same.setCell _ (by omega) _ _ _)
  have hz := p8.lt
  have hz2 := p2.lt
  have hlk1 : w1.heap[lk]? = some (.map es clock) := by rw [hb1.block lk hz2]; exact p2.2
  refine ⟨l ++ [((k : Int), .pointer (some ⟨wr.heap.size + 2, 0, none⟩))], _, _, go p1 (by omega) (by omega), ⟨hB, ?_⟩, go p3 (by omega) (by omega), go p4 (by omega) (by omega), go p5 (by omega) (by omega), go p6 (by omega) (by omega),
    go p7 (by omega) (by omega), ?_, ents_push hents _ _ _, born_push hborn _ _, by rw [others_succ hne, List.map_append, hl]; rfl, ?_, ?_⟩
  · rw [Below.heap_setCell _ _ _ _ (by show lk ≠ er; omega)]; exact putMap_at _ _ _ (lt_of_heap hlk1)
  · exact ((At.below (w := wr.drew) p8 hb1 hz).putMap_ne (by omega) _ _).setCell 0 (.int .i64 0)
  · intro p hp
    simp only [List.mem_append, List.mem_singleton] at hp
    rcases hp with hp | rfl
    · obtain ⟨a, ha, hla'⟩ := hlinks p hp
      exact ⟨a, ha, LinkAt.keep (LinkAt.keep (w := wr.drew) hla' (Same.below hb1 (Nat.le_refl _))) hsame⟩
    · exact ⟨wr.heap.size + 2, rfl, (hla.mono (by omega)).keep hsame⟩
  · exact (Below.putMap (hbel.trans ((Below.mono (show Below wr.heap.size wr w1 from ⟨hb1.os, hb1.tape, hb1.output, hb1.size, hb1.block⟩) (by have := hbel.size; omega)))) hB _ _).setCell (by show B ≤ er; omega) _

theorem rep_done {B : Nat} {c : Cfg} {me : Int} {w wr w1 w2 w3 w4 w5 : World} {k a1 a2 a3 a4 a5 : Nat} {v1 v2 v3 v4 : Value}
    (hk : (k : Int) = c.rep) (hP : At wr B B (.cells c.vals 53) ∧ (∃ l es clock, At wr B (B + 2) (.map es clock) ∧ Ents (Value.int .i64) l es.toList ∧ Born es clock ∧ l.map (·.1) = others me k ∧ ∀ p ∈ l, ∃ a, p.2 = .pointer (some ⟨a, 0, none⟩) ∧ LinkAt wr (B + 8 + 1) a me p.1 c.win c.res) ∧
      At wr B (B + 3) (.map #[] 0) ∧ At wr B (B + 4) (.map #[] 0) ∧ At wr B (B + 5) (.map #[] 0) ∧ At wr B (B + 6) (.map #[] 0) ∧ At wr B (B + 8) (.cells errCells 114) ∧ Below B w wr)
    (hna : NamesAt w1 wr.heap.size a1 me c.rep c.cnt) (b1 : Below wr.heap.size wr w1)
    (hca : CacheAt w2 w1.heap.size a2 me c.rep c.ses c.cac) (b2 : Below w1.heap.size ((w1.setCell ⟨B + 7, 14, none⟩ v1).setCell ⟨B + 8, 1, none⟩ (.int .i64 0)) w2)
    (hvw : ViewsAt w3 w2.heap.size a3 me c.rep) (b3 : Below w2.heap.size ((w2.setCell ⟨B + 7, 15, none⟩ v2).setCell ⟨B + 8, 2, none⟩ (.int .i64 0)) w3)
    (hgs : GossipAt w4 w3.heap.size a4 me c.rep) (b4 : Below w3.heap.size ((w3.setCell ⟨B + 7, 16, none⟩ v3).setCell ⟨B + 8, 3, none⟩ (.int .i64 0)) w4)
    (hwh : WheelAt w5 w4.heap.size a5) (b5 : Below w4.heap.size ((w4.setCell ⟨B + 7, 17, none⟩ v4).setCell ⟨B + 8, 4, none⟩ (.int .i64 0)) w5)
    (hr : At w5 B (B + 7) (.cells (repCells c me (B + 2) (B + 3) (B + 4) (B + 5) (B + 6) (some ⟨a1, 0, none⟩) (some ⟨a2, 0, none⟩) (some ⟨a3, 0, none⟩) (some ⟨a4, 0, none⟩) none 0) 113)) :
    RepAt ((w5.setCell ⟨B + 7, 18, none⟩ (.pointer (some ⟨a5, 0, none⟩))).setCell ⟨B + 8, 5, none⟩ (.int .i64 0)) B c me ∧ Below B w ((w5.setCell ⟨B + 7, 18, none⟩ (.pointer (some ⟨a5, 0, none⟩))).setCell ⟨B + 8, 5, none⟩ (.int .i64 0)) := by
  obtain ⟨p1, ⟨l, es, clock, p2, hents, hborn, hl, hlinks⟩, p3, p4, p5, p6, p8, hbel⟩ := hP
  have st : ∀ (W : World) (i j : Nat) (v x : Value), Same (B + 9) W ((W.setCell ⟨B + 7, i, none⟩ v).setCell ⟨B + 8, j, none⟩ x) :=
    fun W i j v x => (Same.setCell W (by omega) _ _ _).trans (Same.setCell _ (by omega) _ _ _)
  have sb : ∀ (W W' : World) (n : Nat), Below n W W' → W.heap.size ≤ n → Same (B + 9) W W' := fun W W' n h hn => Same.below h hn
  have s5 := st w5 18 5 (.pointer (some ⟨a5, 0, none⟩)) (.int .i64 0)
  have s4 := ((st w4 17 4 v4 (.int .i64 0)).trans (sb _ _ _ b5 (by simp only [size_setCell]; exact Nat.le_refl _))).trans s5
  have s3 := ((st w3 16 3 v3 (.int .i64 0)).trans (sb _ _ _ b4 (by simp only [size_setCell]; exact Nat.le_refl _))).trans s4
  have s2 := ((st w2 15 2 v2 (.int .i64 0)).trans (sb _ _ _ b3 (by simp only [size_setCell]; exact Nat.le_refl _))).trans s3
  have s1 := ((st w1 14 1 v1 (.int .i64 0)).trans (sb _ _ _ b2 (by simp only [size_setCell]; exact Nat.le_refl _))).trans s2
  have s0 := (sb wr w1 _ b1 (Nat.le_refl _)).trans s1
  have z := p8.lt
  have g1 := b1.size
  have g2 := b2.size
  have g3 := b3.size
  have g4 := b4.size
  have g5 := b5.size
  simp only [size_setCell] at g2 g3 g4 g5
  have mv : ∀ {j : Nat} {o : Obj}, At wr B j o → j ≠ B + 7 → j ≠ B + 8 → At ((w5.setCell ⟨B + 7, 18, none⟩ (.pointer (some ⟨a5, 0, none⟩))).setCell ⟨B + 8, 5, none⟩ (.int .i64 0)) B j o := by
    intro j o h h1 h2
    have q1 := h.below b1 h.lt
    have q2 := ((q1.setCell_ne h1 14 none v1).setCell_ne h2 1 none (.int .i64 0)).below b2 q1.lt
    have q3 := ((q2.setCell_ne h1 15 none v2).setCell_ne h2 2 none (.int .i64 0)).below b3 q2.lt
    have q4 := ((q3.setCell_ne h1 16 none v3).setCell_ne h2 3 none (.int .i64 0)).below b4 q3.lt
    have q5 := ((q4.setCell_ne h1 17 none v4).setCell_ne h2 4 none (.int .i64 0)).below b5 q4.lt
    exact (q5.setCell_ne h1 _ _ _).setCell_ne h2 _ _ _
  refine ⟨⟨a1, a2, a3, a4, ⟨a5, ?_, ⟨l, ⟨es, clock, mv p2 (by omega) (by omega), hents, hborn⟩, by rw [hl, ← hk]; simp, ?_⟩, mv p3 (by omega) (by omega), mv p4 (by omega) (by omega), mv p5 (by omega) (by omega), mv p6 (by omega) (by omega), (hwh.mono (by omega)).keep s5⟩,
    (hna.mono (by omega)).keep s1, (hca.mono (by omega)).keep s2, (hvw.mono (by omega)).keep s3, (hgs.mono (by omega)).keep s4⟩, ?_⟩
  · exact (hr.setCell 18 (.pointer (some ⟨a5, 0, none⟩))).setCell_ne (by omega) _ _ _
  · intro p hp
    obtain ⟨a, ha, hla⟩ := hlinks p hp
    exact ⟨a, ha, hla.keep s0⟩
  · have h0 := hbel.size
    have c1 := hbel.trans (Below.mono b1 (B' := B) (by omega))
    have c2 := ((c1.setCell (p := ⟨B + 7, 14, none⟩) (by show B ≤ B + 7; omega) v1).setCell (p := ⟨B + 8, 1, none⟩) (by show B ≤ B + 8; omega) (.int .i64 0)).trans (Below.mono b2 (B' := B) (by omega))
    have c3 := ((c2.setCell (p := ⟨B + 7, 15, none⟩) (by show B ≤ B + 7; omega) v2).setCell (p := ⟨B + 8, 2, none⟩) (by show B ≤ B + 8; omega) (.int .i64 0)).trans (Below.mono b3 (B' := B) (by omega))
    have c4 := ((c3.setCell (p := ⟨B + 7, 16, none⟩) (by show B ≤ B + 7; omega) v3).setCell (p := ⟨B + 8, 3, none⟩) (by show B ≤ B + 8; omega) (.int .i64 0)).trans (Below.mono b4 (B' := B) (by omega))
    have c5 := ((c4.setCell (p := ⟨B + 7, 17, none⟩) (by show B ≤ B + 7; omega) v4).setCell (p := ⟨B + 8, 4, none⟩) (by show B ≤ B + 8; omega) (.int .i64 0)).trans (Below.mono b5 (B' := B) (by omega))
    exact (c5.setCell (by show B ≤ B + 7; omega) _).setCell (by show B ≤ B + 8; omega) _

theorem index_errs (W : World) (j : Nat) (hj : j < 6) : (Instr.index 114 (.agg #[.int .i64 0, .int .i64 0, .int .i64 0, .int .i64 0, .int .i64 0, .int .i64 0]) (.int .i64 (j : Int))).run Tryz.prog W = .ok (.int .i64 0) W := by
  rcases (show j = 0 ∨ j = 1 ∨ j = 2 ∨ j = 3 ∨ j = 4 ∨ j = 5 by omega) with rfl | rfl | rfl | rfl | rfl | rfl
  · kernel_rfl
  · kernel_rfl
  · kernel_rfl
  · kernel_rfl
  · kernel_rfl
  · kernel_rfl

/-- A call that makes memory of its own alone, seen from three rows that it leaves. -/
theorem frame3 {P : Program} {f : FuncId} {args : Array Value} {W : World} {E : Ending} {X : World → Prop} {B cb r er : Nat} {c1 c7 c8 : Array Value} {T1 T7 T8 : TypeId}
    (h : Calls P f args W fun e w1 => e = E ∧ X w1 ∧ Below W.heap.size W w1) (p1 : At W B cb (.cells c1 T1)) (p7 : At W B r (.cells c7 T7)) (p8 : At W B er (.cells c8 T8)) :
    Calls P f args W fun e w1 => e = E ∧ X w1 ∧ (∀ o, w1.cell? ⟨cb, o, none⟩ = c1[o]?) ∧ (∀ o, w1.cell? ⟨r, o, none⟩ = c7[o]?) ∧ (∀ o, w1.frozen? ⟨r, o, none⟩ = false) ∧ (∀ o, w1.cell? ⟨er, o, none⟩ = c8[o]?) ∧ (∀ o, w1.frozen? ⟨er, o, none⟩ = false) ∧
      Hid (At w1 B cb (.cells c1 T1) ∧ At w1 B r (.cells c7 T7) ∧ At w1 B er (.cells c8 T8) ∧ Below W.heap.size W w1) := by
  refine h.mono ?_
  rintro e w1 ⟨he, hx, hb⟩
  have a1 := p1.below hb p1.lt
  have a7 := p7.below hb p7.lt
  have a8 := p8.below hb p8.lt
  exact ⟨he, hx, row_cells a1.2, row_cells a7.2, row_free a7.2, row_cells a8.2, row_free a8.2, ⟨a1, a7, a8, hb⟩⟩

/-- link.New in a round of replica.New: what the round goes on with. -/
theorem link_round (me k win res : Int) (W : World) (S : Nat) (hS : W.heap.size = S) (lk er : Nat) (es : Array MapEntry) (clock : Nat) (l : List (Int × Value)) (h1 : 0 ≤ me) (h2 : me < 16) (h3 : 0 ≤ k) (h4 : k < 16) (hne : (me == k) = false) (h5 : 1 ≤ win) (h6 : win ≤ 16) (h7 : 1 ≤ res) (h8 : res ≤ 1000)
    (hlk : W.heap[lk]? = some (.map es clock)) (hents : Ents (Value.int .i64) l es.toList) (hfind : findIx k l 0 = none) (her : W.heap[er]? = some (.cells errCells 114)) (hd : er ≠ lk) :
    Calls Tryz.prog 43 #[.int .i64 me, .int .i64 k, .int .i64 win, .int .i64 res] W fun e w1 =>
      e = .returned (.tuple #[.pointer (some ⟨S + 2, 0, none⟩), .int .i64 0]) ∧ LinkAt w1 S (S + 2) me k win res ∧ Below S W w1 ∧
      (∀ b o, b < S → w1.cell? ⟨b, o, none⟩ = W.cell? ⟨b, o, none⟩) ∧ (∀ b o, b < S → w1.frozen? ⟨b, o, none⟩ = W.frozen? ⟨b, o, none⟩) ∧
      (Instr.mapUpdate 102 (.map (some lk)) (.int .i64 k) (.pointer (some ⟨S + 2, 0, none⟩))).run Tryz.prog w1 = .ok () (putMap w1 lk (es.push { key := .int .i64 k, val := .pointer (some ⟨S + 2, 0, none⟩), born := clock }) (clock + 1)) ∧
      (∀ o es' c', (putMap w1 lk es' c').cell? ⟨er, o, none⟩ = #[Value.int .i64 0, .int .i64 0, .int .i64 0, .int .i64 0, .int .i64 0, .int .i64 0][o]?) ∧ (∀ o es' c', (putMap w1 lk es' c').frozen? ⟨er, o, none⟩ = false) := by
  subst hS
  refine (link_new me k win res W h1 h2 h3 h4 hne h5 h6 h7 h8).mono ?_
  rintro e w1 ⟨rfl, hla, _, hb1⟩
  obtain ⟨hc1, hf1⟩ := bcell hb1
  have z1 := lt_of_heap hlk
  have z2 := lt_of_heap her
  refine ⟨rfl, hla, hb1, hc1, hf1, run_update_new (P := Tryz.prog) (t := 102) (e := 115) (w := w1) link_law Tryz.underlying102 (by rw [hb1.block lk z1]; exact hlk) hents k hfind _, ?_, ?_⟩
  · intro o es' c'
    rw [putMap_cell _ _ _ _ hd, hc1 er o z2]; exact row_cells her o
  · intro o es' c'
    rw [putMap_frozen _ _ _ _ hd, hf1 er o z2]; exact row_free her o

set_option maxHeartbeats 1000000 in
set_option maxRecDepth 100000 in
theorem replica_new (c : Cfg) (me : Int) (w : World) (h : c.Right) (h1 : 0 ≤ me) (h2 : me < c.rep) :
    Calls Tryz.prog 32 #[.agg c.vals, .int .i64 me] w fun e w' => e = .returned (.tuple #[.pointer (some ⟨w.heap.size + 7, 0, none⟩), .int .i64 0]) ∧ RepAt w' w.heap.size c me ∧ Below w.heap.size w w' := by
  have hmm := @run_makeMap Tryz.prog
  obtain ⟨a1, a2, a3, a4, a5, a6, a7, a8, a9, b1, b2, b3, b4, b5, b6, b7, b8, b9, c1, c2⟩ := h
  have HR : Hid (c.Right) := ⟨a1, a2, a3, a4, a5, a6, a7, a8, a9, b1, b2, b3, b4, b5, b6, b7, b8, b9, c1, c2⟩
  unfold Cfg.vals
  go_enter Tryz.func32, Tryz.ntmps32
  go_wp2_with (go_at_call 42; refine (right_yes c _ HR.out).mono ?_; rintro e w1 ⟨rfl, rfl⟩; unfold Cfg.vals)
  clear hmm
  refine wp_world (RepMid w.heap.size c me 0 (w.heap.size) (w.heap.size + 1 + 1) (w.heap.size + 1 + 1 + 1) (w.heap.size + 1 + 1 + 1 + 1) (w.heap.size + 1 + 1 + 1 + 1 + 1) (w.heap.size + 1 + 1 + 1 + 1 + 1 + 1) (w.heap.size + 1 + 1 + 1 + 1 + 1 + 1 + 1) (w.heap.size + 1 + 1 + 1 + 1 + 1 + 1 + 1 + 1) w) ?_ ?_
  · exact ⟨[], #[], 0, ((((((((At.new' (by simp <;> omega) (by simp) _).alloc _).alloc _).alloc _).alloc _).alloc _).alloc _).alloc _).alloc _, ((((((At.new' (by simp <;> omega) (by simp) _).alloc _).alloc _).alloc _).alloc _).alloc _).alloc _, (((((At.new' (by simp <;> omega) (by simp) _).alloc _).alloc _).alloc _).alloc _).alloc _, ((((At.new' (by simp <;> omega) (by simp) _).alloc _).alloc _).alloc _).alloc _, (((At.new' (by simp <;> omega) (by simp) _).alloc _).alloc _).alloc _, ((At.new' (by simp <;> omega) (by simp) _).alloc _).alloc _, (At.new' (by simp <;> omega) (by simp) _).alloc _, At.new' (by simp <;> omega) (by simp) _, rfl, by simp [Born], rfl, by simp, (((((((((Below.refl _ _).alloc (by simp <;> omega) _).alloc (by simp <;> omega) _).alloc (by simp <;> omega) _).alloc (by simp <;> omega) _).alloc (by simp <;> omega) _).alloc (by simp <;> omega) _).alloc (by simp <;> omega) _).alloc (by simp <;> omega) _).alloc (by simp <;> omega) _⟩
  intro W hW
  have hord : w.heap.size < w.heap.size + 1 + 1 ∧ w.heap.size + 1 + 1 < w.heap.size + 1 + 1 + 1 ∧ w.heap.size + 1 + 1 + 1 < w.heap.size + 1 + 1 + 1 + 1 ∧ w.heap.size + 1 + 1 + 1 + 1 < w.heap.size + 1 + 1 + 1 + 1 + 1 ∧ w.heap.size + 1 + 1 + 1 + 1 + 1 < w.heap.size + 1 + 1 + 1 + 1 + 1 + 1 ∧ w.heap.size + 1 + 1 + 1 + 1 + 1 + 1 < w.heap.size + 1 + 1 + 1 + 1 + 1 + 1 + 1 ∧ w.heap.size + 1 + 1 + 1 + 1 + 1 + 1 + 1 < w.heap.size + 1 + 1 + 1 + 1 + 1 + 1 + 1 + 1 := by omega
  have HH := Lib.hid (show w.heap.size + 1 + 1 - w.heap.size = 2 ∧ w.heap.size + 1 + 1 + 1 - w.heap.size = 3 ∧ w.heap.size + 1 + 1 + 1 + 1 - w.heap.size = 4 ∧ w.heap.size + 1 + 1 + 1 + 1 + 1 - w.heap.size = 5 ∧ w.heap.size + 1 + 1 + 1 + 1 + 1 + 1 - w.heap.size = 6 ∧ w.heap.size + 1 + 1 + 1 + 1 + 1 + 1 + 1 - w.heap.size = 7 ∧ w.heap.size + 1 + 1 + 1 + 1 + 1 + 1 + 1 + 1 - w.heap.size = 8 by omega)
  generalize w.heap.size + 1 + 1 + 1 + 1 + 1 + 1 + 1 + 1 = er at *
  generalize w.heap.size + 1 + 1 + 1 + 1 + 1 + 1 + 1 = r at *
  generalize w.heap.size + 1 + 1 + 1 + 1 + 1 + 1 = cl at *
  generalize w.heap.size + 1 + 1 + 1 + 1 + 1 = tm at *
  generalize w.heap.size + 1 + 1 + 1 + 1 = ct at *
  generalize w.heap.size + 1 + 1 + 1 = ot at *
  generalize w.heap.size + 1 + 1 = lk at *
  go_loopw [33] (fun v wr => ∃ (k : Nat), v = .int .i64 k ∧ (k : Int) ≤ c.rep ∧ RepMid w.heap.size c me k w.heap.size lk ot ct tm cl r er w wr) (fun v _ => 17 - (intOf v).toNat)
  case atStart => exact ⟨0, rfl, by omega, hW⟩
  case round =>
    obtain ⟨k, rfl, hk, hmid⟩ := hrel
    obtain ⟨l, es, clock, p1, p2, p3, p4, p5, p6, p7, p8, hents, hborn, hl, hlinks, hbel⟩ := hmid
    have HM := Lib.hid (And.intro hents (And.intro hborn (And.intro hl (And.intro hlinks hbel))))
    clear hents hborn hl hlinks hbel hW
    obtain ⟨o1, o2, o3, o4, o5, o6, o7⟩ := hord
    have q1 := row_cells p1.2
    have q7 := row_cells p7.2
    have q8 := row_cells p8.2
    have f8 := row_free p8.2
    simp only [Cfg.vals, repCells, errCells] at q1 q7 q8
    have HP := Lib.hid (And.intro p1 (And.intro p2 (And.intro p3 (And.intro p4 (And.intro p5 (And.intro p6 (And.intro p7 p8)))))))
    clear p1 p2 p3 p4 p5 p6 p7 p8
    by_cases hlt : (k : Int) < c.rep
    · by_cases hme : (k : Int) = me
      · have d1 : ((k : Int) != me) = false := by simp [hme]
        have H1 := Lib.hid hme
        clear hme
        go_wp2
        refine ⟨⟨k + 1, by simp, by omega, ?_⟩, by simp [intOf]; omega⟩
        obtain ⟨p1, p2, p3, p4, p5, p6, p7, p8⟩ := HP.out
        obtain ⟨hents, hborn, hl, hlinks, hbel⟩ := HM.out
        exact ⟨l, es, clock, p1, p2, p3, p4, p5, p6, p7, p8, hents, hborn, by rw [others_succ_me H1.out]; exact hl, hlinks, hbel⟩
      · have d1 : ((k : Int) != me) = true := by simp [hme]
        have hne : (me == (k : Int)) = false := by simp; omega
        obtain ⟨p1, p2, p3, p4, p5, p6, p7, p8⟩ := HP.out
        have z1 := p1.lt
        have z2 := p2.lt
        have z7 := p7.lt
        have z8 := p8.lt
        have hfind : findIx (k : Int) l 0 = none := others_fresh HM.out.2.2.1 0
        have HQ := Lib.hid (And.intro p2.2 (And.intro hfind p8.2))
        clear p1 p2 p3 p4 p5 p6 p7 p8 hfind
        go_wp2_with fail
        go_region_with (go_at_call 43; refine (link_round me k c.win c.res wr.drew wr.heap.size rfl lk er es clock l h1 (by omega) (by omega) (by omega) hne (by omega) (by omega) (by omega) (by omega) (by exact HQ.out.1) HM.out.1 HQ.out.2.1 (by exact HQ.out.2.2) (by omega)).mono ?_; rintro e w1 ⟨rfl, hla, hb1, hc1, hf1, hupd, q9, f9⟩)
        all_goals
          go_wp2
          refine ⟨⟨k + 1, by simp, by omega, ?_⟩, by simp [intOf]; omega⟩
          exact repMid_step (by omega) o1 o2 o3 o4 o5 o6 o7 HP.out HM.out hme hla hb1
    · have A0 : Hid (At wr w.heap.size w.heap.size (.cells c.vals 53) ∧ At wr w.heap.size r (.cells (repCells c me lk ot ct tm cl none none none none none 0) 113) ∧ At wr w.heap.size er (.cells errCells 114)) := ⟨HP.out.1, HP.out.2.2.2.2.2.2.1, HP.out.2.2.2.2.2.2.2⟩
      have n1 : ¬ r = er := by omega
      have n2 : ¬ er = r := by omega
      have n3 : ¬ w.heap.size = r := by omega
      have n4 : ¬ w.heap.size = er := by omega
      go_wp2_with (first
        | (go_at_call 44; refine (frame3 (c7 := repCells c me lk ot ct tm cl none none none none none 0) (c8 := errCells) (names_new me c.rep c.cnt _ h1 h2 (by omega) (by omega) (by omega) (by omega)) A0.out.1 A0.out.2.1 A0.out.2.2).mono ?_; rintro e w1 ⟨rfl, hna, q1, q7, f7, q8, f8, A1⟩; simp only [Cfg.vals, repCells, errCells] at q1 q7 q8)
        | (go_at_call 45; refine (frame3 (c7 := repCells c me lk ot ct tm cl (some ⟨wr.heap.size + 2, 0, none⟩) none none none none 0) (c8 := errCells) (cache_new me c.rep c.ses c.cac _ h1 h2 (by omega) (by omega) (by omega) (by omega) (by omega) (by omega)) ((A1.out.1.setCell_ne n3 _ _ _).setCell_ne n4 _ _ _) (by exact ((A1.out.2.1.setCell 14 (.pointer (some ⟨wr.heap.size + 2, 0, none⟩))).setCell_ne n1 _ _ _)) (by exact ((A1.out.2.2.1.setCell_ne n2 _ _ _).setCell 1 (.int .i64 0)))).mono ?_; rintro e w2 ⟨rfl, hca, q1, q7, f7, q8, f8, A2⟩; simp only [Cfg.vals, repCells, errCells] at q1 q7 q8)
        | (go_at_call 46; refine (frame3 (c7 := repCells c me lk ot ct tm cl (some ⟨wr.heap.size + 2, 0, none⟩) (some ⟨w1.heap.size + 1, 0, none⟩) none none none 0) (c8 := errCells) (views_new me c.rep _ h1 h2 (by omega) (by omega)) ((A2.out.1.setCell_ne n3 _ _ _).setCell_ne n4 _ _ _) (by exact ((A2.out.2.1.setCell 15 (.pointer (some ⟨w1.heap.size + 1, 0, none⟩))).setCell_ne n1 _ _ _)) (by exact ((A2.out.2.2.1.setCell_ne n2 _ _ _).setCell 2 (.int .i64 0)))).mono ?_; rintro e w3 ⟨rfl, hvw, q1, q7, f7, q8, f8, A3⟩; simp only [Cfg.vals, repCells, errCells] at q1 q7 q8)
        | (go_at_call 47; refine (frame3 (c7 := repCells c me lk ot ct tm cl (some ⟨wr.heap.size + 2, 0, none⟩) (some ⟨w1.heap.size + 1, 0, none⟩) (some ⟨w2.heap.size + 2, 0, none⟩) none none 0) (c8 := errCells) (gossip_new me c.rep _ h1 h2 (by omega) (by omega)) ((A3.out.1.setCell_ne n3 _ _ _).setCell_ne n4 _ _ _) (by exact ((A3.out.2.1.setCell 16 (.pointer (some ⟨w2.heap.size + 2, 0, none⟩))).setCell_ne n1 _ _ _)) (by exact ((A3.out.2.2.1.setCell_ne n2 _ _ _).setCell 3 (.int .i64 0)))).mono ?_; rintro e w4 ⟨rfl, hgs, q1, q7, f7, q8, f8, A4⟩; simp only [Cfg.vals, repCells, errCells] at q1 q7 q8)
        | (go_at_call 48; refine (frame3 (c7 := repCells c me lk ot ct tm cl (some ⟨wr.heap.size + 2, 0, none⟩) (some ⟨w1.heap.size + 1, 0, none⟩) (some ⟨w2.heap.size + 2, 0, none⟩) (some ⟨w3.heap.size + 1, 0, none⟩) none 0) (c8 := errCells) (wheel_new _) ((A4.out.1.setCell_ne n3 _ _ _).setCell_ne n4 _ _ _) (by exact ((A4.out.2.1.setCell 17 (.pointer (some ⟨w3.heap.size + 1, 0, none⟩))).setCell_ne n1 _ _ _)) (by exact ((A4.out.2.2.1.setCell_ne n2 _ _ _).setCell 4 (.int .i64 0)))).mono ?_; rintro e w5 ⟨rfl, hwh, q1, q7, f7, q8, f8, A5⟩; simp only [Cfg.vals, repCells, errCells] at q1 q7 q8))
      have hix := index_errs
      go_loop [115] (fun v => ∃ j : Nat, j ≤ 6 ∧ v = .int .i64 j) (fun v => 7 - (intOf v).toNat)
      case atStart => exact ⟨0, by omega, rfl⟩
      case round =>
        obtain ⟨j, hj, rfl⟩ := hrel
        by_cases hj6 : j < 6
        · go_wp2
          exact ⟨⟨j + 1, by omega, by simp⟩, by simp [intOf]; omega⟩
        · go_wp2
          go_ret2
          obtain ⟨e2, e3, e4, e5, e6, e7, e8⟩ := HH.out
          obtain ⟨p1, p2, p3, p4, p5, p6, p7, p8⟩ := HP.out
          obtain ⟨hents, hborn, hl, hlinks, hbel⟩ := HM.out
          simp only [size_setCell] at hca hvw hgs hwh
          have B1 := A1.out.2.2.2
          have B2 := A2.out.2.2.2
          have B3 := A3.out.2.2.2
          have B4 := A4.out.2.2.2
          have B5 := A5.out.2.2.2
          have HR := A5.out.2.1
          simp only [size_setCell] at B2 B3 B4 B5
          clear A0 A1 A2 A3 A4 A5 q1 q7 q8 f7 f8
          obtain rfl : lk = w.heap.size + 2 := by omega
          obtain rfl : ot = w.heap.size + 3 := by omega
          obtain rfl : ct = w.heap.size + 4 := by omega
          obtain rfl : tm = w.heap.size + 5 := by omega
          obtain rfl : cl = w.heap.size + 6 := by omega
          obtain rfl : r = w.heap.size + 7 := by omega
          obtain rfl : er = w.heap.size + 8 := by omega
          exact ⟨rfl, rep_done (by omega) ⟨p1, ⟨l, es, clock, p2, hents, hborn, hl, hlinks⟩, p3, p4, p5, p6, p8, hbel⟩ hna B1 hca B2 hvw B3 hgs B4 hwh B5 HR⟩
end Go.Proofs.YtegdpagjloidnaaGreatDoor
