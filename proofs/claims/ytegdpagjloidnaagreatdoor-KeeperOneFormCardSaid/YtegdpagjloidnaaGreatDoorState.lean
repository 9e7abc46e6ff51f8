/- What a new replica's state becomes where few blocks turn. -/
import Derived.Test.YtegdpagjloidnaaGreatDoorDo
namespace Go.Proofs.YtegdpagjloidnaaGreatDoor
open Go.RowKit Go.Conc

/-- Cells of these types alone, or no cells. -/
def Kd (ts : List TypeId) (o : Obj) : Prop := ∀ cs T, o = .cells cs T → T ∈ ts
/-- Objects of such kinds stay. -/
def Keeps (ts : List TypeId) (w w' : World) : Prop := ∀ {lo i : Nat} {o : Obj}, At w lo i o → Kd ts o → At w' lo i o
theorem Keeps.trans {ts : List TypeId} {a b c : World} (h : Keeps ts a b) (k : Keeps ts b c) : Keeps ts a c := fun ha hk => k (h ha hk) hk
theorem Keeps.of_only {ts : List TypeId} {p : Nat → Prop} {w w' : World} (ho : Only p w w') (hp : ∀ i, i < w.heap.size → p i → ∃ cs T, w.heap[i]? = some (.cells cs T) ∧ T ∉ ts) : Keeps ts w w' := by
  intro lo i o ha hk
  refine ha.only ho fun hpi => ?_
  obtain ⟨cs, T, h1, h2⟩ := hp i ha.lt hpi
  rw [ha.2] at h1
  simp only [Option.some.injEq] at h1
  exact h2 (hk cs T h1)
theorem Keeps.of_below {ts : List TypeId} {B : Nat} {w w' : World} (h : Below B w w') (hB : w.heap.size ≤ B) : Keeps ts w w' := fun ha _ => ha.below h (Nat.lt_of_lt_of_le ha.lt hB)
theorem own_no_freeze {w : World} {base sz n g : Nat} {e : TypeId} {v : Value} {xs : List Value} (h : w.ownsRow base e sz v n xs) (hg : v.ownBlock = some g) : ∃ cs, w.heap[g]? = some (.cells cs e) := by
  obtain ⟨h1, ⟨rfl, rfl⟩ | ⟨g', cap, cur, rfl, hb, hgg, h3⟩⟩ := h
  · simp [Value.ownBlock] at hg
  · simp [Value.ownBlock] at hg; subst hg; exact ⟨cur, hgg⟩

def preTs : List TypeId := [172, 179, 185, 190, 3]
def seeTs : List TypeId := [172, 200]
theorem kd_cells {ts : List TypeId} {cs : Array Value} {T : TypeId} (h : T ∈ ts) : Kd ts (.cells cs T) := by
  intro cs' T' hh; simp at hh; rw [← hh.2]; exact h
theorem kd_map {ts : List TypeId} {es : Array MapEntry} {c : Nat} : Kd ts (.map es c) := by intro cs' T' hh; simp at hh
theorem kd_chan {ts : List TypeId} {a : Nat} {b : Array Value} {c : Bool} {d e : Nat} {f : Bool} : Kd ts (.chan a b c d e f) := by intro cs' T' hh; simp at hh

theorem Pre.keeps {w w' : World} {R lk la ot ct ca sa tm vw : Nat} {rc rc' : Array Value} {en : MapEntry} {clock : Nat} {win res n : Int} {rest : Int × Int × Int} (h : Pre w R lk la ot ct ca sa tm vw rc en clock win res n rest) (hk : Keeps preTs w w') (hR : At w' 0 R (.cells rc' 113)) (hrc : ∀ i, i ≠ 21 → rc'[i]? = rc[i]?) : Pre w' R lk la ot ct ca sa tm vw rc' en clock win res n rest := by
  obtain ⟨c, m, l1, l2, l3⟩ := h.idle.l
  obtain ⟨m2, es, c2, l, j, k1, k2, k3, k4⟩ := h.cs.ex
  obtain ⟨m3, b3, v1, v2, v3⟩ := h.vv
  exact { idle := ⟨⟨hR, (hrc _ (by decide)).trans h.idle.one.r11, hk h.idle.one.m kd_map, h.idle.one.k, h.idle.one.v, h.idle.one.b⟩, (hrc _ (by decide)).trans h.idle.r12, hk h.idle.o kd_map, ⟨c, m, hk l1 (kd_cells (by decide)), hk l2 kd_chan, hk l3 kd_map⟩, (hrc _ (by decide)).trans h.idle.r13, hk h.idle.c kd_map⟩
          r0 := (hrc _ (by decide)).trans h.r0, r8 := (hrc _ (by decide)).trans h.r8, r10 := (hrc _ (by decide)).trans h.r10, r15 := (hrc _ (by decide)).trans h.r15, r16 := (hrc _ (by decide)).trans h.r16, r19 := (hrc _ (by decide)).trans h.r19, r22 := (hrc _ (by decide)).trans h.r22, r23 := (hrc _ (by decide)).trans h.r23, r24 := (hrc _ (by decide)).trans h.r24
          tm := hk h.tm kd_map, cs := ⟨m2, es, c2, l, j, hk k1 (kd_cells (by decide)), hk k2 kd_map, k3, k4⟩, s := hk h.s (kd_cells (by decide)), vv := ⟨m3, b3, hk v1 (kd_cells (by decide)), hk v2 (kd_cells (by decide)), hk v3 kd_map⟩, c2 := h.c2 }

theorem SeeAt.keeps {w w' : World} {B : Nat} {c : Cfg} {me drops : Int} {nm ca vw gs : Option Addr} (h : SeeAt w B c me nm ca vw gs drops) (hk : Keeps seeTs w w') (hR : ∀ cs, At w B (B + 7) (.cells cs 113) → At w' B (B + 7) (.cells cs 113)) : SeeAt w' B c me nm ca vw gs drops := by
  obtain ⟨wh, h1, ⟨l, ⟨es, cl, m1, m1'⟩, m2, m3⟩, h3, h4, h5, h6, ⟨mw, w1, w2⟩⟩ := h
  refine ⟨wh, hR _ h1, ⟨l, ⟨es, cl, hk m1 kd_map, m1'⟩, m2, fun p hp => ?_⟩, hk h3 kd_map, hk h4 kd_map, hk h5 kd_map, hk h6 kd_map, ⟨mw, hk w1 (kd_cells (by decide)), hk w2 kd_map⟩⟩
  obtain ⟨a, e1, ⟨cc, mm, l1, l2, l3⟩⟩ := m3 p hp
  exact ⟨a, e1, ⟨cc, mm, hk l1 (kd_cells (by decide)), hk l2 kd_chan, hk l3 kd_map⟩⟩

def cfgA : Cfg := ⟨2, 2, 2, 20, 4, 2, 2, 2, 4, 50⟩
/-- What a new replica of the example's cluster is. -/
theorem pre_of_rep {w : World} {B : Nat} (h : RepAt w B cfgA 0) : ∃ nm ca vw gs la sa rc en clock, SeeAt w B cfgA 0 nm (some ⟨ca, 0, none⟩) (some ⟨vw, 0, none⟩) gs 0 ∧ Pre w (B + 7) (B + 2) la (B + 3) (B + 4) ca sa (B + 5) vw rc en clock 2 2 2 (2, 4, 2) ∧ B + 7 < w.heap.size ∧ sa ≠ B + 7 ∧ B + 9 ≤ sa := by
  obtain ⟨nm, ca, vw, gs, hS, hN, hC, hV, hG⟩ := h
  refine ⟨some ⟨nm, 0, none⟩, ca, vw, some ⟨gs, 0, none⟩, ?_⟩
  have hS0 := hS
  obtain ⟨wh, h1, ⟨l, ⟨es, cl, m1, m1', m1b⟩, m2, m3⟩, h3, h4, h5, h6, hw⟩ := hS
  have hl : others 0 (cfgA.rep.toNat) = [1] := by decide
  rw [hl] at m2
  obtain ⟨v, rfl⟩ : ∃ v, l = [((1 : Int), v)] := by
    have hlen : l.length = 1 := by have := congrArg List.length m2; simpa using this
    obtain ⟨⟨a, b⟩, rfl⟩ := List.length_eq_one_iff.1 hlen
    simp at m2; subst m2; exact ⟨b, rfl⟩
  obtain ⟨la, hv1, hla⟩ := m3 ((1 : Int), v) (by simp)
  simp only at hv1
  subst hv1
  obtain ⟨en, rfl, hek, hev⟩ : ∃ en, es = #[en] ∧ en.key = .int .i64 1 ∧ en.val = .pointer (some ⟨la, 0, none⟩) := by
    obtain ⟨es⟩ := es
    have hlen : es.length = 1 := by have := congrArg List.length m1'; simpa [Ents] using this
    obtain ⟨e, rfl⟩ := List.length_eq_one_iff.1 hlen
    simp [Ents] at m1'; exact ⟨e, rfl, m1'.1, m1'.2⟩
  have hborn : en.born < cl := m1b.1 en (by simp)
  obtain ⟨m, k, ls, c1, ⟨es2, cl2, c2, c2', c2b⟩, c3, c4, c5, c6⟩ := hC
  have hmem : ((0 : Int), (0 : Int)) ∈ ls.map (·.1) := by
    rw [c3]
    have h4k : (4 : Int) ≤ 0 + 2 * (k : Int) := c4
    refine List.mem_map.2 ⟨0, by simp; omega, by simp⟩
  obtain ⟨jx, vv, f1, f2⟩ := findIx_mem' ls 0 hmem
  obtain ⟨sa, hv', hsa⟩ := c6 _ f2
  simp only at hv'
  subst hv'
  refine ⟨la, sa, _, en, cl, hS0, ⟨⟨⟨h1.mono (Nat.zero_le _), rfl, m1.mono (Nat.zero_le _), hek, hev, hborn⟩, rfl, h3.mono (Nat.zero_le _), hla.mono (Nat.zero_le _), rfl, h4.mono (Nat.zero_le _)⟩, rfl, rfl, rfl, rfl, rfl, rfl, rfl, rfl, rfl, h5.mono (Nat.zero_le _), ⟨m, es2, cl2, ls, jx, c1.mono (Nat.zero_le _), c2.mono (Nat.zero_le _), c2', f1⟩, hsa.mono (Nat.zero_le _), hV.mono (Nat.zero_le _), by decide⟩, h1.lt, ?_, hsa.1⟩
  have := hsa.1
  omega
end Go.Proofs.YtegdpagjloidnaaGreatDoor
