/-
  What every row of this seat needs.
-/
import Derived.Test.YtogbdnecpdcmiaaDoorRows
import Derived.Test.YtogbdnecpdcmiaaDoorJ3
import Derived.ProofKit
import Derived.LaidMore
import Derived.OpenShut
import Derived.Stop.Joined
/-
  What every row of this seat needs: the tables as they are laid, and arguments that are plain.
-/
namespace Go.Proofs.YtogbdnecpdcmiaaDoor
open Go Go.ChangeShapes Go.WideShapes Go.ChangeAt Go.RowKit
theorem own : ownKnob Tryd.prog.godebug = none := by kernel_rfl
theorem gDb : Tryd.prog.globalNamed "math/bits.deBruijn64tab" = some 4 := by kernel_rfl
theorem gBs : Tryd.prog.globalNamed "specie/prime.bases" = some 0 := by kernel_rfl
theorem tDb : (Tryd.prog.globals[4]?).map (·.type) = some 207 := by kernel_rfl
theorem tBs : (Tryd.prog.globals[0]?).map (·.type) = some 186 := by kernel_rfl
section
variable {H : Type} {enc : TypeId × Value → H} {P : Program} {w : World} {base : Nat} {spare : Nat → Bool} {held : Bool} {fuel : Nat} {t e : TypeId} {cs : List Value}
theorem ints_of_array {n : Nat} {k : IntKind} {L : List Int} {ps : List MemPlace} (ht : P.underlying t = some (.array n e)) (he : P.underlying e = some (.int k)) (hc : P.cellsOf e = 1)
    (h : DataW.trod enc P w base spare held fuel t cs = some (.agg (L.map fun a => .lit (.int k a)), ps)) : ∀ (j : Nat) (a : Int), L[j]? = some a → cs[j]? = some (.int k a) := by
  obtain ⟨xs, m, _, hx, _, hn, hel⟩ := DataW.trod_array ht h
  simp only [Prod.mk.injEq, DataW.agg.injEq] at hx
  intro j a hj
  have h1 : (xs.map (·.1))[j]? = some (DataW.lit (.int k a)) := by rw [← hx.1, List.getElem?_map, hj]; rfl
  rw [List.getElem?_map] at h1
  cases hy : xs[j]? with
  | none => rw [hy] at h1; cases h1
  | some y =>
    rw [hy] at h1
    have hj2 : j < n := by rw [← hn]; exact (List.getElem?_eq_some_iff.1 hy).1
    have h2 := hel j hj2
    rw [hy, hc, Nat.mul_one] at h2
    obtain ⟨c, e1, e2, _⟩ := DataW.trod_int he h2
    have h3 : c = a := by
      rw [e2] at h1
      simpa using h1
    have h4 : ((cs.drop j).take 1)[0]? = cs[j]? := by simp
    rw [e1, h3] at h4
    exact h4.symm
end
/-- the condition lays the tables -/
theorem tabs_of_laid {W : World} (h : laidMetH Tryd.prog [("math/bits.deBruijn64tab", Rows.laid_math_bits_deBruijn64tab), ("specie/prime.bases", Rows.laid_specie_prime_bases)] W) : Tabs W := by
  rw [MakeChecks.laidMetH_plain _ _ _ (by kernel_rfl)] at h
  obtain ⟨ps, ⟨g0, t0, cs0, f0, p0, q0, hg0, ht0, hv0, hd0, ⟨g1, t1, cs1, f1, p1, q1, hg1, ht1, hv1, hd1, _, _⟩, _⟩, _, _⟩ := h
  obtain rfl := Option.some.inj (gDb.symm.trans hg0)
  obtain rfl := Option.some.inj (gBs.symm.trans hg1)
  obtain rfl := Option.some.inj (tDb.symm.trans ht0)
  obtain rfl := Option.some.inj (tBs.symm.trans ht1)
  refine ⟨fun j hj => ?_, fun j v hv => ?_⟩
  · have h1 := ints_of_array (k := .u8) (L := Lib.deBruijn64tab.map fun a : Nat => (a : Int)) Tryd.underlying207 Tryd.underlying5 (by kernel_rfl) hd0 j (Lib.deBruijn64tab.getD j 0 : Nat) (by
      rw [List.getElem?_map, List.getD_eq_getElem?_getD, List.getElem?_eq_getElem hj]; rfl)
    rw [World.var?_cell hg0 hv0 j]
    simpa using h1
  · have h1 := ints_of_array (k := .u64) (L := basesL.map fun a : Nat => (a : Int)) Tryd.underlying186 Tryd.underlying157 (by kernel_rfl) hd1
    have e0 : basesV = (basesL.map fun a : Nat => (a : Int)).map (Value.int .u64) := rfl
    rw [e0, List.getElem?_map] at hv
    cases hq : (basesL.map fun a : Nat => (a : Int))[j]? with
    | none => rw [hq] at hv; cases hv
    | some a =>
      rw [hq] at hv
      rw [World.var?_cell hg1 hv1 j]
      have h2 := h1 j a hq
      obtain rfl : Value.int .u64 a = v := by simpa using hv
      simpa using h2
section
variable {H : Type} {enc : TypeId × Value → H} {w : World} {base : Nat} {spare : Nat → Bool} {held : Bool}
theorem wf_range {n : Int} (h : (Lit.int .i64 n).wf = true) : -9223372036854775808 ≤ n ∧ n ≤ 9223372036854775807 := by
  unfold Lit.wf at h
  have e1 : IntKind.i64.min = -9223372036854775808 := rfl
  have e2 : IntKind.i64.max = 9223372036854775807 := rfl
  simp [e1, e2] at h
  omega
/-- the bases' datum -/
def basesD (p q g g1 g2 h : Int) : DataW H := .agg [.agg [.lit (.int .i64 p), .lit (.int .i64 q), .lit (.int .i64 g)], .lit (.int .i64 g1), .lit (.int .i64 g2), .lit (.int .i64 h)]
/-- the bases' numbers fit -/
structure BWf (p q g g1 g2 h : Int) : Prop where
  p : (Lit.int .i64 p).wf = true
  q : (Lit.int .i64 q).wf = true
  g : (Lit.int .i64 g).wf = true
  g1 : (Lit.int .i64 g1).wf = true
  g2 : (Lit.int .i64 g2).wf = true
  h : (Lit.int .i64 h).wf = true
theorem c3 : Tryd.prog.cellsOf 3 = 1 := by kernel_rfl
theorem c23 : Tryd.prog.cellsOf 23 = 3 := by kernel_rfl
theorem c25 : Tryd.prog.cellsOf 25 = 6 := by kernel_rfl
set_option maxRecDepth 100000 in
theorem open_bases {r : Reach} {b0 : Nat} {v : Value} {d : DataW H} {ps : List MemPlace} (hval : Value.okWide Tryd.prog w r b0 25 v) (hd : DataW.Trod enc Tryd.prog w base spare held 25 v d ps) :
    ∃ p q g g1 g2 h : Int, v = bV p q g g1 g2 h ∧ d = basesD p q g g1 g2 h ∧ ps = [] ∧ BWf p q g g1 g2 h := by
  obtain ⟨⟨cs⟩, rfl, hsz⟩ := okWide_struct Tryd.underlying25 hval
  obtain ⟨f0, hf0⟩ := hd
  simp only [Value.cells] at hf0
  obtain ⟨ys, m, _, hx, hlen, hl, hf⟩ := DataW.trod_struct Tryd.underlying25 hf0
  simp only [Prod.mk.injEq] at hx
  obtain ⟨rfl, rfl⟩ := hx
  match ys, hl with
  | [y0, y1, y2, y3], _ =>
    have k0 := hf 0 _ rfl
    have k1 := hf 1 _ rfl
    have k2 := hf 2 _ rfl
    have k3 := hf 3 _ rfl
    simp only [List.getElem?_cons_zero, List.getElem?_cons_succ] at k0 k1 k2 k3
    obtain ⟨zs, m2, _, rfl, hlen2, hl2, hz⟩ := DataW.trod_struct Tryd.underlying23 k0
    match zs, hl2 with
    | [z0, z1, z2], _ =>
      have j0 := hz 0 _ rfl
      have j1 := hz 1 _ rfl
      have j2 := hz 2 _ rfl
      simp only [List.getElem?_cons_zero, List.getElem?_cons_succ] at j0 j1 j2
      obtain ⟨a0, e0, rfl, w0⟩ := DataW.trod_int Tryd.underlying3 j0
      obtain ⟨a1, e1, rfl, w1⟩ := DataW.trod_int Tryd.underlying3 j1
      obtain ⟨a2, e2, rfl, w2⟩ := DataW.trod_int Tryd.underlying3 j2
      obtain ⟨a3, e3, rfl, w3⟩ := DataW.trod_int Tryd.underlying3 k1
      obtain ⟨a4, e4, rfl, w4⟩ := DataW.trod_int Tryd.underlying3 k2
      obtain ⟨a5, e5, rfl, w5⟩ := DataW.trod_int Tryd.underlying3 k3
      refine ⟨a0, a1, a2, a3, a4, a5, ?_, rfl, rfl, ⟨w0, w1, w2, w3, w4, w5⟩⟩
      have hs6 : cs.length = 6 := by rw [← c25]; exact hlen
      match cs, hs6 with
      | [b0, b1, b2, b3, b4, b5], _ =>
        simp [c3, c23] at e0 e1 e2 e3 e4 e5
        rw [e0, e1, e2, e3, e4, e5]
theorem shut_bases {p q g g1 g2 h : Int} (k : BWf p q g g1 g2 h) : DataW.Trod enc Tryd.prog w base spare held 25 (bV p q g g1 g2 h) (basesD p q g g1 g2 h) [] := by
  refine ⟨3, ?_⟩
  have i : ∀ (m : Nat) (a : Int), (Lit.int .i64 a).wf = true → DataW.trod enc Tryd.prog w base spare held (m + 1) 3 [.int .i64 a] = some (.lit (.int .i64 a), []) := fun m a ha => trod_int_mk m Tryd.underlying3 ha
  have g0 : DataW.trod enc Tryd.prog w base spare held 2 23 [.int .i64 p, .int .i64 q, .int .i64 g] = some (.agg [.lit (.int .i64 p), .lit (.int .i64 q), .lit (.int .i64 g)], []) :=
    trod_struct_mk (xs := [(.lit (.int .i64 p), []), (.lit (.int .i64 q), []), (.lit (.int .i64 g), [])]) Tryd.underlying23 (by rw [c23]; rfl) (by simp [c3, i 0 p k.p, i 0 q k.q, i 0 g k.g])
  exact trod_struct_mk (xs := [(.agg [.lit (.int .i64 p), .lit (.int .i64 q), .lit (.int .i64 g)], []), (.lit (.int .i64 g1), []), (.lit (.int .i64 g2), []), (.lit (.int .i64 h), [])]) Tryd.underlying25 (by rw [c25]; rfl)
    (by simp [c3, c23, Value.cells, g0, i 1 g1 k.g1, i 1 g2 k.g2, i 1 h k.h])
end
/-- arguments that are plain read behind the call as before -/
theorem post_plain {H : Type} {enc : TypeId × Value → H} {P : Program} {f : Func} {s : ChangeSpec} {apart fresh handsOn again : Bool} {W W' : World} {args : Array Value} {v : Value} {ds gs : List (DataW H)}
    (hW : DataW.Whole enc P f.params.toList s.vars apart W args.toList ds gs [])
    (hres : ∀ (b : Nat) (sp : Nat → Bool) (hd : Bool), DataW.TrodAll enc P W' b sp hd f.resultTypes.toList (v.resultList f.resultTypes.size) (s.fn H (ds ++ gs)).results [])
    (hargs : ∀ sp : Nat → Bool, DataW.TrodAll enc P W' 0 sp true f.params.toList args.toList (s.fn H (ds ++ gs)).args [])
    (hvars : ∀ sp : Nat → Bool, DataW.TrodVars enc P W' sp s.vars (s.fn H (ds ++ gs)).vars [])
    (hb : Below W.heap.size W W')
    (hok : ∀ (j : Nat) (t : TypeId) (r : Value), f.resultTypes[j]? = some t → (v.resultList f.resultTypes.size)[j]? = some r → Value.okWide P W' .any 0 t r) :
    s.post enc P f apart fresh handsOn again W args v W' :=
  ⟨ds, gs, [], [], [], [], hW, hres _ _ _, hargs _, hvars _, hb.frame _, fun _ => ⟨hok, _, _, [], ⟨[], [], trodAll_append (hargs _) (hres _ _ _), hvars _, rfl, (fun b off hp => by cases hp), fun _ => List.nodup_nil⟩, (fun p hp => by cases hp)⟩⟩
end Go.Proofs.YtogbdnecpdcmiaaDoor
