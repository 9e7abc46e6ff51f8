/- KeeperOneForm answers true for every input and leaves its arguments as they read: the card. No condition. -/
import Derived.Test.YtegdpagjloidnaaGreatDoorCards
import Derived.Test.YtegdpagjloidnaaGreatDoorTie
import Derived.Test.YtegdpagjloidnaaGreatDoorOne
import Derived.WalkKit
import Derived.ProofKit
import Derived.OpenShut
import Derived.Deep.DeepHandedRow
import Derived.Deep.DeepWitnessRowRef
import Derived.LaidMore
namespace Go.Proofs.YtegdpagjloidnaaGreatDoor.oneForm
open Go.ChangeShapes Go.WideShapes Go.ChangeAt Go.RowKit

theorem own : ownKnob Tryz.prog.godebug = none := by kernel_rfl
theorem laidOut : laidOutB Tryz.prog = true := by kernel_rfl
theorem c3 : Tryz.prog.cellsOf 3 = 1 := by kernel_rfl
theorem c5 : Tryz.prog.cellsOf 5 = 1 := by kernel_rfl
theorem c9 : Tryz.prog.cellsOf 9 = 1 := by kernel_rfl
theorem c23 : Tryz.prog.cellsOf 23 = 2 := by kernel_rfl
theorem c25 : Tryz.prog.cellsOf 25 = 4 := by kernel_rfl
theorem c26 : Tryz.prog.cellsOf 26 = 1 := by kernel_rfl
theorem c28 : Tryz.prog.cellsOf 28 = 8 := by kernel_rfl

section
variable {H : Type} {enc : TypeId × Value → H}
theorem bytes_of {W : World} {fuel : Nat} {cs : List Value} {x : DataW H × List MemPlace} (h : DataW.trod enc Tryz.prog W 0 (fun _ => true) true fuel 26 cs = some x) :
    ∃ ao n cap xs, cs = [.slice ao n cap] ∧ ReadsA W (.slice ao n cap) xs := by
  rcases open_ints Tryz.underlying26 Tryz.underlying5 c5 h with ⟨rfl, _⟩ | ⟨a, len, cap, zs, rfl, _, hl, _, hz, _, hcell, hwf⟩
  · exact ⟨none, 0, 0, [], rfl, Or.inl (Or.inl ⟨rfl, rfl⟩)⟩
  · simp only [if_true] at hz
    by_cases h0 : cap = 0
    · subst h0
      obtain rfl : len = 0 := by omega
      exact ⟨some a, 0, 0, [], rfl, Or.inr ⟨rfl, a, rfl⟩⟩
    · obtain ⟨b, off, rfl, hc⟩ := ints_at hcell (by omega)
      have hlen : ((zs.take len).map (fun z => UInt8.ofNat z.toNat)).length = len := by simp; omega
      refine ⟨some ⟨b, off, none⟩, len, cap, (zs.take len).map (fun z => UInt8.ofNat z.toNat), rfl, Or.inl (Or.inr ⟨b, off, cap, by rw [hlen], by omega, fun i hi => ?_⟩)⟩
      have hi' : i < zs.length := by omega
      rw [hlen] at hi
      have hw := hwf _ (List.getElem_mem hi')
      have hb : 0 ≤ zs[i] ∧ zs[i] ≤ 255 := by simpa [Lit.wf, IntKind.min, IntKind.max, IntKind.signed, IntKind.bits] using hw
      rw [hc i hi']
      simp only [List.getD, List.getElem?_map, List.getElem?_take, hi, if_true, List.getElem?_eq_getElem hi', Option.map_some, Option.getD_some, U8]
      congr 2
      simp; omega

theorem i64_of {n : Int} (h : (Lit.int .i64 n).wf = true) : I64 n := by
  simpa [Lit.wf, IntKind.min, IntKind.max, IntKind.signed, IntKind.bits, I64] using h

set_option maxRecDepth 100000 in
theorem input_of {W : World} {v : Value} {d : DataW H} {p : List MemPlace} {base : Nat} (hv : Value.okWide Tryz.prog W .any base 28 v) (h : DataW.Trod enc Tryz.prog W 0 (fun _ => true) true 28 v d p) :
    ∃ (x : Inp) (ao : Option Addr) (n cap : Nat), v = .agg (x.vals (.slice ao n cap)) ∧ ReadsA W (.slice ao n cap) x.data ∧ I64 x.ses ∧ I64 x.id ∧ I64 x.ok ∧ I64 x.a ∧ I64 x.b := by
  obtain ⟨cs, rfl, hsz⟩ := okWide_struct Tryz.underlying28 hv
  obtain ⟨fuel, hf⟩ := h
  obtain ⟨xs, n, _, _, hl, hxl, hx⟩ := DataW.trod_struct Tryz.underlying28 hf
  rw [c28] at hsz
  obtain ⟨l⟩ := cs
  match l, hsz with
  | [a0, a1, a2, a3, a4, a5, a6, a7], _ =>
    match xs, hxl with
    | [x0, x1, x2, x3], _ =>
      have g0 := hx 0 _ rfl
      have g1 := hx 1 _ rfl
      have g2 := hx 2 _ rfl
      have g3 := hx 3 _ rfl
      simp [Value.cells, c3, c23, c25, c26] at g0 g1 g2 g3
      obtain ⟨k, e0, _, _⟩ := DataW.trod_int Tryz.underlying3 g0
      obtain ⟨ys, m, _, _, _, hyl, hy⟩ := DataW.trod_struct Tryz.underlying23 g1
      obtain ⟨zs, q, _, _, _, hzl, hz⟩ := DataW.trod_struct Tryz.underlying25 g2
      match ys, hyl with
      | [y0, y1], _ =>
        match zs, hzl with
        | [z0, z1, z2, z3], _ =>
          have u0 := hy 0 _ rfl
          have u1 := hy 1 _ rfl
          have t0 := hz 0 _ rfl
          have t1 := hz 1 _ rfl
          have t2 := hz 2 _ rfl
          have t3 := hz 3 _ rfl
          simp [c3, c9] at u0 u1 t0 t1 t2 t3
          obtain ⟨k1, e1, _, w1⟩ := DataW.trod_int Tryz.underlying3 u0
          obtain ⟨k2, e2, _, w2⟩ := DataW.trod_int Tryz.underlying3 u1
          obtain ⟨k3, e3, _, w3⟩ := DataW.trod_int Tryz.underlying3 t0
          obtain ⟨s, e4, _, _⟩ := DataW.trod_string Tryz.underlying9 t1
          obtain ⟨k5, e5, _, w5⟩ := DataW.trod_int Tryz.underlying3 t2
          obtain ⟨k6, e6, _, w6⟩ := DataW.trod_int Tryz.underlying3 t3
          obtain ⟨ao, len, cap, bs, e7, hr⟩ := bytes_of g3
          simp only [List.cons.injEq, and_true] at e0 e1 e2 e3 e4 e5 e6 e7
          subst e0 e1 e2 e3 e4 e5 e6 e7
          exact ⟨⟨k, k1, k2, k3, s, k5, k6, bs⟩, ao, len, cap, rfl, hr, i64_of w1, i64_of w2, i64_of w3, i64_of w5, i64_of w6⟩
end

theorem one_form (x : Inp) (ao : Option Addr) (dn cap : Nat) (bo : Option Addr) (n bc : Nat) (bs : List UInt8) (w : World) (hd : ReadsA w (.slice ao dn cap) x.data) (hb : ReadsA w (.slice bo n bc) bs)
    (i1 : I64 x.ses) (i2 : I64 x.id) (i3 : I64 x.ok) (i4 : I64 x.a) (i5 : I64 x.b) :
    Calls Tryz.prog 5 #[.agg (x.vals (.slice ao dn cap)), .slice bo n bc] w fun e w' => e = .returned (.bool true) ∧ Below w.heap.size w w' := by
  by_cases h : 65536 < dn ∨ 65536 < x.name.size ∨ 65536 < n
  · exact one_long x ao dn cap bo n bc w h
  · exact one_short x ao dn cap bo n bc bs w hd hb (by omega) (by omega) (by omega) i1 i2 i3 i4 i5

set_option maxRecDepth 100000 in
theorem contract (H : Type) (enc : TypeId × Value → H) (W : World) (base : Nat) (args : Array Value) (ds gs : List (DataW H)) (before : List MemPlace)
    (hval : ∀ (j : Nat) t v, Tryz.f5.params[j]? = some t → args[j]? = some v → Value.okWide Tryz.prog W .any base t v)
    (hW : DataW.Whole enc Tryz.prog Tryz.f5.params.toList Rows.keeperOneFormSpec.vars false W args.toList ds gs before) :
    Calls Tryz.prog 5 args W fun e W' => ∃ v, e = .returned v ∧ Rows.keeperOneFormSpec.post enc Tryz.prog Tryz.f5 false true false false W args v W' := by
  have hW' := hW
  obtain ⟨p, q, hA0, hV, rfl, hfz, hnd⟩ := hW
  have hA : DataW.TrodAll enc Tryz.prog W 0 (fun _ => true) true Tryz.f5.params.toList args.toList ds p := hA0
  rw [Tryz.params5] at hA hval
  obtain ⟨v0, v1, d0, d1, p0, p1, rfl, rfl, rfl, h0, h1⟩ := trodAll_two hA
  obtain ⟨rfl, rfl⟩ := trodVars_none hV
  clear hA0
  simp only [List.append_nil] at hW'
  have hlt : ∀ x ∈ p0 ++ p1, x.block < W.heap.size := fun x hx => by simpa using hW'.lt x hx
  obtain ⟨x, ao, dn, cap, rfl, hr, i1, i2, i3, i4, i5⟩ := input_of (hval 0 _ v0 rfl rfl) h0
  obtain ⟨bo, n, bc, rfl⟩ := okWide_slice Tryz.underlying26 (hval 1 _ v1 rfl rfl)
  obtain ⟨fuel, h1'⟩ := h1
  obtain ⟨bo', n', bc', bs, hcs, hrb⟩ := bytes_of h1'
  simp [Value.cells] at hcs
  obtain ⟨rfl, rfl, rfl⟩ := hcs
  have h1 : DataW.Trod enc Tryz.prog W 0 (fun _ => true) true 26 (.slice bo n bc) d1 p1 := ⟨fuel, h1'⟩
  refine (one_form x ao dn cap bo n bc bs W hr hrb i1 i2 i3 i4 i5).mono fun e W' ⟨he, hb⟩ => ?_
  subst he
  refine ⟨_, rfl, _, _, _, [], p0 ++ p1, [], hW', ?_, ?_, rfl, hb.frame _, fun h => by cases h⟩
  · exact trodAll_cons_mk (shut_bool Tryz.underlying4 _) trodAll_mk0
  · exact trodAll_mk2 (Below.trod laidOut (by kernel_rfl) (of_decide_eq_true (by kernel_rfl)) h0 hb (fun x hx => hlt x (List.mem_append_left _ hx))) (Below.trod laidOut (by kernel_rfl) (of_decide_eq_true (by kernel_rfl)) h1 hb (fun x hx => hlt x (List.mem_append_right _ hx)))
end Go.Proofs.YtegdpagjloidnaaGreatDoor.oneForm
