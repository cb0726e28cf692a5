/-
  What every row of this seat needs.
-/
import Derived.Test.YtogbdnecpdcmiabDoorRows
import Derived.Test.YtogbdnecpdcmiabDoorJ3
import Derived.ProofKit
import Derived.LaidMore
import Derived.OpenShut
import Derived.Stop.Joined
/-
  What every row of this seat needs: the tables as they are laid, and arguments that are plain.
-/
namespace Go.Proofs.YtogbdnecpdcmiabDoor
open Go Go.ChangeShapes Go.WideShapes Go.ChangeAt Go.RowKit
theorem own : ownKnob Tryd.prog.godebug = none := by kernel_rfl
theorem gDb : Tryd.prog.globalNamed "math/bits.deBruijn64tab" = some 1 := by kernel_rfl
theorem gBs : Tryd.prog.globalNamed "specie/prime.bases" = some 0 := by kernel_rfl
theorem tDb : (Tryd.prog.globals[1]?).map (·.type) = some 103 := by kernel_rfl
theorem tBs : (Tryd.prog.globals[0]?).map (·.type) = some 73 := by kernel_rfl
section
variable {H : Type} {enc : TypeId × Value → H} {P : Program} {w : World} {base : Nat} {spare : Nat → Bool} {held : Bool} {fuel : Nat} {t e : TypeId} {cs : List Value}
theorem ints_of_array {n : Nat} {k : IntKind} {L : List Int} {ps : List MemPlace} (ht : P.underlying t = some (.array n e)) (he : P.underlying e = some (.int k)) (hc : P.cellsOf e = 1)
    (h : DataW.trod enc P w base spare held fuel t cs = some (.agg (L.map fun a => .lit (.int k a)), ps)) : ∀ (j : Nat) (a : Int), L[j]? = some a → cs[j]? = some (.int k a) := by
  obtain ⟨xs, m, _, hx, _, hn, hel⟩ := DataW.trod_array ht h
  simp only [Prod.mk.injEq, DataW.agg.injEq] at hx
  intro j a hj
  have h1 : (xs.map (·.1))[j]? = some (DataW.lit (.int k a)) := by rw [← hx.1, List.getElem?_map, hj]; rfl
  rw [List.getElem?_map] at h1
  cases hy : xs[j]? with
  | none => rw [hy] at h1; cases h1
  | some y =>
    rw [hy] at h1
    have hj2 : j < n := by rw [← hn]; exact (List.getElem?_eq_some_iff.1 hy).1
    have h2 := hel j hj2
    rw [hy, hc, Nat.mul_one] at h2
    obtain ⟨c, e1, e2, _⟩ := DataW.trod_int he h2
    have h3 : c = a := by
      rw [e2] at h1
      simpa using h1
    have h4 : ((cs.drop j).take 1)[0]? = cs[j]? := by simp
    rw [e1, h3] at h4
    exact h4.symm
end
/-- the condition lays the tables -/
theorem tabs_of_laid {W : World} (h : laidMetH Tryd.prog [("math/bits.deBruijn64tab", Rows.laid_math_bits_deBruijn64tab), ("specie/prime.bases", Rows.laid_specie_prime_bases)] W) : Tabs W := by
  rw [MakeChecks.laidMetH_plain _ _ _ (by kernel_rfl)] at h
  obtain ⟨ps, ⟨g0, t0, cs0, f0, p0, q0, hg0, ht0, hv0, hd0, ⟨g1, t1, cs1, f1, p1, q1, hg1, ht1, hv1, hd1, _, _⟩, _⟩, _, _⟩ := h
  obtain rfl := Option.some.inj (gDb.symm.trans hg0)
  obtain rfl := Option.some.inj (gBs.symm.trans hg1)
  obtain rfl := Option.some.inj (tDb.symm.trans ht0)
  obtain rfl := Option.some.inj (tBs.symm.trans ht1)
  refine ⟨fun j hj => ?_, fun j v hv => ?_⟩
  · have h1 := ints_of_array (k := .u8) (L := Lib.deBruijn64tab.map fun a : Nat => (a : Int)) Tryd.underlying103 Tryd.underlying5 (by kernel_rfl) hd0 j (Lib.deBruijn64tab.getD j 0 : Nat) (by
      rw [List.getElem?_map, List.getD_eq_getElem?_getD, List.getElem?_eq_getElem hj]; rfl)
    rw [World.var?_cell hg0 hv0 j]
    simpa using h1
  · have h1 := ints_of_array (k := .u64) (L := basesL.map fun a : Nat => (a : Int)) Tryd.underlying73 Tryd.underlying72 (by kernel_rfl) hd1
    have e0 : basesV = (basesL.map fun a : Nat => (a : Int)).map (Value.int .u64) := rfl
    rw [e0, List.getElem?_map] at hv
    cases hq : (basesL.map fun a : Nat => (a : Int))[j]? with
    | none => rw [hq] at hv; cases hv
    | some a =>
      rw [hq] at hv
      rw [World.var?_cell hg1 hv1 j]
      have h2 := h1 j a hq
      obtain rfl : Value.int .u64 a = v := by simpa using hv
      simpa using h2
section
variable {H : Type} {enc : TypeId × Value → H} {w : World} {base : Nat} {spare : Nat → Bool} {held : Bool}
theorem wf_range {n : Int} (h : (Lit.int .i64 n).wf = true) : -9223372036854775808 ≤ n ∧ n ≤ 9223372036854775807 := by
  unfold Lit.wf at h
  have e1 : IntKind.i64.min = -9223372036854775808 := rfl
  have e2 : IntKind.i64.max = 9223372036854775807 := rfl
  simp [e1, e2] at h
  omega
theorem c3 : Tryd.prog.cellsOf 3 = 1 := by kernel_rfl
theorem c23 : Tryd.prog.cellsOf 24 = 3 := by kernel_rfl
/-- the group's datum -/
def groupD (p q g : Int) : DataW H := .agg [.lit (.int .i64 p), .lit (.int .i64 q), .lit (.int .i64 g)]
/-- the group's numbers fit -/
structure GWf (p q g : Int) : Prop where
  p : (Lit.int .i64 p).wf = true
  q : (Lit.int .i64 q).wf = true
  g : (Lit.int .i64 g).wf = true
set_option maxRecDepth 100000 in
theorem open_group {r : Reach} {b0 : Nat} {v : Value} {d : DataW H} {ps : List MemPlace} (hval : Value.okWide Tryd.prog w r b0 24 v) (hd : DataW.Trod enc Tryd.prog w base spare held 24 v d ps) :
    ∃ p q g : Int, v = gV p q g ∧ d = groupD p q g ∧ ps = [] ∧ GWf p q g := by
  obtain ⟨⟨cs⟩, rfl, hsz⟩ := okWide_struct Tryd.underlying24 hval
  obtain ⟨f0, hf0⟩ := hd
  simp only [Value.cells] at hf0
  obtain ⟨zs, m2, _, hx, hlen2, hl2, hz⟩ := DataW.trod_struct Tryd.underlying24 hf0
  simp only [Prod.mk.injEq] at hx
  obtain ⟨rfl, rfl⟩ := hx
  match zs, hl2 with
  | [z0, z1, z2], _ =>
    have j0 := hz 0 _ rfl
    have j1 := hz 1 _ rfl
    have j2 := hz 2 _ rfl
    simp only [List.getElem?_cons_zero, List.getElem?_cons_succ] at j0 j1 j2
    obtain ⟨a0, e0, rfl, w0⟩ := DataW.trod_int Tryd.underlying3 j0
    obtain ⟨a1, e1, rfl, w1⟩ := DataW.trod_int Tryd.underlying3 j1
    obtain ⟨a2, e2, rfl, w2⟩ := DataW.trod_int Tryd.underlying3 j2
    refine ⟨a0, a1, a2, ?_, rfl, rfl, ⟨w0, w1, w2⟩⟩
    have hs3 : cs.length = 3 := by rw [← c23]; exact hlen2
    match cs, hs3 with
    | [b0, b1, b2], _ =>
      simp [c3] at e0 e1 e2
      rw [e0, e1, e2]
theorem shut_group {p q g : Int} (k : GWf p q g) : DataW.Trod enc Tryd.prog w base spare held 24 (gV p q g) (groupD p q g) [] := by
  refine ⟨3, ?_⟩
  have i : ∀ (m : Nat) (a : Int), (Lit.int .i64 a).wf = true → DataW.trod enc Tryd.prog w base spare held (m + 1) 3 [.int .i64 a] = some (.lit (.int .i64 a), []) := fun m a ha => trod_int_mk m Tryd.underlying3 ha
  exact trod_struct_mk (xs := [(.lit (.int .i64 p), []), (.lit (.int .i64 q), []), (.lit (.int .i64 g), [])]) Tryd.underlying24 (by rw [c23]; rfl) (by simp [c3, Value.cells, i 1 p k.p, i 1 q k.q, i 1 g k.g])
end
/-- arguments that are plain read behind the call as before -/
theorem post_plain {H : Type} {enc : TypeId × Value → H} {P : Program} {f : Func} {s : ChangeSpec} {apart fresh handsOn again : Bool} {W W' : World} {args : Array Value} {v : Value} {ds gs : List (DataW H)}
    (hW : DataW.Whole enc P f.params.toList s.vars apart W args.toList ds gs [])
    (hres : ∀ (b : Nat) (sp : Nat → Bool) (hd : Bool), DataW.TrodAll enc P W' b sp hd f.resultTypes.toList (v.resultList f.resultTypes.size) (s.fn H (ds ++ gs)).results [])
    (hargs : ∀ sp : Nat → Bool, DataW.TrodAll enc P W' 0 sp true f.params.toList args.toList (s.fn H (ds ++ gs)).args [])
    (hvars : ∀ sp : Nat → Bool, DataW.TrodVars enc P W' sp s.vars (s.fn H (ds ++ gs)).vars [])
    (hb : Below W.heap.size W W')
    (hok : ∀ (j : Nat) (t : TypeId) (r : Value), f.resultTypes[j]? = some t → (v.resultList f.resultTypes.size)[j]? = some r → Value.okWide P W' .any 0 t r) :
    s.post enc P f apart fresh handsOn again W args v W' :=
  ⟨ds, gs, [], [], [], [], hW, hres _ _ _, hargs _, hvars _, hb.frame _, fun _ => ⟨hok, _, _, [], ⟨[], [], trodAll_append (hargs _) (hres _ _ _), hvars _, rfl, (fun b off hp => by cases hp), fun _ => List.nodup_nil⟩, (fun p hp => by cases hp)⟩⟩
end Go.Proofs.YtogbdnecpdcmiabDoor
