/-
  PedersenBinds is proved: for all arguments the call of the law returns true and its arguments read as before, where the package variables begin as the program's text lays them (the card ties them to it).
-/
import Derived.Test.YtogbdnecpdcmiaaDoorP3B
import Derived.Test.YtogbdnecpdcmiaaDoorJ5
import Derived.Test.YtogbdnecpdcmiaaDoorTie
import Derived.Test.YtogbdnecpdcmiaaDoorCards
import Derived.SevenTiedAt
namespace Go.Proofs.YtogbdnecpdcmiaaDoor
open Go Go.ChangeShapes Go.WideShapes Go.ChangeAt Go.RowKit
theorem cpedersenBinds_met (os : Os) (args : Array Value) : laidMetH Tryd.prog [("math/bits.deBruijn64tab", Rows.laid_math_bits_deBruijn64tab), ("specie/prime.bases", Rows.laid_specie_prime_bases)] ((World.doorLaid Tryd.prog 400 os).forCall (fun _ _ => 0) ⟨#[], args, []⟩).memory :=
  laidMetH_of_parts3 (fuel := 8) (laidMet_of_run' 8 (by kernel_rfl) (by kernel_rfl)) (by kernel_rfl) (by kernel_rfl)
set_option maxRecDepth 100000 in
theorem cpedersenBinds_open {H : Type} {enc : TypeId × Value → H} {W : World} {base b0 : Nat} {r : Reach} {sp : Nat → Bool} {held : Bool} {args : Array Value} {ds : List (DataW H)} {ps : List MemPlace} (hA : DataW.TrodAll enc Tryd.prog W b0 sp held [25, 3, 3, 3, 3] args.toList ds ps)
    (hval : ∀ (j : Nat) t v, (#[25, 3, 3, 3, 3] : Array TypeId)[j]? = some t → args[j]? = some v → Value.okWide Tryd.prog W r base t v) :
    ∃ p q g g1 g2 h a0 a1 a2 a3 : Int, args = #[bV p q g g1 g2 h, .int .i64 a0, .int .i64 a1, .int .i64 a2, .int .i64 a3] ∧ ds = [basesD p q g g1 g2 h, .lit (.int .i64 a0), .lit (.int .i64 a1), .lit (.int .i64 a2), .lit (.int .i64 a3)] ∧ ps = [] ∧ BWf p q g g1 g2 h ∧ (Lit.int .i64 a0).wf = true ∧ (Lit.int .i64 a1).wf = true ∧ (Lit.int .i64 a2).wf = true ∧ (Lit.int .i64 a3).wf = true := by
  obtain ⟨v0, vs0, d0, ds0, p0, q0, e0, rfl, rfl, h0, t0⟩ := trodAll_cons hA
  obtain ⟨v1, vs1, d1, ds1, p1, q1, rfl, rfl, rfl, h1, t1⟩ := trodAll_cons t0
  obtain ⟨v2, vs2, d2, ds2, p2, q2, rfl, rfl, rfl, h2, t2⟩ := trodAll_cons t1
  obtain ⟨v3, vs3, d3, ds3, p3, q3, rfl, rfl, rfl, h3, t3⟩ := trodAll_cons t2
  obtain ⟨v4, vs4, d4, ds4, p4, q4, rfl, rfl, rfl, h4, t4⟩ := trodAll_cons t3
  obtain ⟨rfl, rfl, rfl⟩ := trodAll_nil t4
  have ea : args = #[v0, v1, v2, v3, v4] := by cases args; simp_all
  subst ea
  obtain ⟨p, q, g, g1, g2, h, rfl, rfl, rfl, w0⟩ := open_bases (hval 0 _ v0 rfl rfl) h0
  obtain ⟨a0, rfl, rfl, rfl, w1⟩ := open_int Tryd.underlying3 (hval 1 _ v1 rfl rfl) h1
  obtain ⟨a1, rfl, rfl, rfl, w2⟩ := open_int Tryd.underlying3 (hval 2 _ v2 rfl rfl) h2
  obtain ⟨a2, rfl, rfl, rfl, w3⟩ := open_int Tryd.underlying3 (hval 3 _ v3 rfl rfl) h3
  obtain ⟨a3, rfl, rfl, rfl, w4⟩ := open_int Tryd.underlying3 (hval 4 _ v4 rfl rfl) h4
  exact ⟨p, q, g, g1, g2, h, a0, a1, a2, a3, rfl, rfl, rfl, w0, w1, w2, w3, w4⟩
theorem cpedersenBinds_shut {H : Type} {enc : TypeId × Value → H} {W : World} {b0 : Nat} {sp : Nat → Bool} {held : Bool} {p q g g1 g2 h a0 a1 a2 a3 : Int} (w0 : BWf p q g g1 g2 h) (w1 : (Lit.int .i64 a0).wf = true) (w2 : (Lit.int .i64 a1).wf = true) (w3 : (Lit.int .i64 a2).wf = true) (w4 : (Lit.int .i64 a3).wf = true) :
    DataW.TrodAll enc Tryd.prog W b0 sp held [25, 3, 3, 3, 3] (#[bV p q g g1 g2 h, .int .i64 a0, .int .i64 a1, .int .i64 a2, .int .i64 a3] : Array Value).toList [basesD p q g g1 g2 h, .lit (.int .i64 a0), .lit (.int .i64 a1), .lit (.int .i64 a2), .lit (.int .i64 a3)] [] :=
  trodAll_cons_mk (p := []) (p' := []) (shut_bases w0) (trodAll_cons_mk (p := []) (p' := []) (shut_int Tryd.underlying3 w1) (trodAll_cons_mk (p := []) (p' := []) (shut_int Tryd.underlying3 w2) (trodAll_cons_mk (p := []) (p' := []) (shut_int Tryd.underlying3 w3) (trodAll_cons_mk (p := []) (p' := []) (shut_int Tryd.underlying3 w4) trodAll_mk0))))
set_option maxRecDepth 100000 in
theorem cpedersenBinds_lifted (os : Os) (started : os.Started) (H : Type) (enc : TypeId × Value → H) :
    ReturnsInHanded {} Tryd.checked os 7 .any (fun w args => (Rows.pedersenBindsSpec.pre enc Tryd.prog Tryd.f7 [] false w args ∧ laidMetH Tryd.prog [("math/bits.deBruijn64tab", Rows.laid_math_bits_deBruijn64tab), ("specie/prime.bases", Rows.laid_specie_prime_bases)] w) ∧ sizedMet enc Tryd.prog Tryd.f7 (OpenSpec.ofChange Rows.pedersenBindsSpec) false w args)
      (Rows.pedersenBindsSpec.post enc Tryd.prog Tryd.f7 false true false false) := by
  refine returnsInHanded_of_change_and (C := Tryd.checked) (X := fun w _ => laidMetH Tryd.prog [("math/bits.deBruijn64tab", Rows.laid_math_bits_deBruijn64tab), ("specie/prime.bases", Rows.laid_specie_prime_bases)] w) (fun _ _ _ hh h => h.of_heap hh) own started (by kernel_rfl) Tryd.func7
    (ChangeSpec.witness_shaped (enc := enc) (C := Tryd.checked) (os := os) (X := fun w _ => laidMetH Tryd.prog [("math/bits.deBruijn64tab", Rows.laid_math_bits_deBruijn64tab), ("specie/prime.bases", Rows.laid_specie_prime_bases)] w) false (World.doorLaid Tryd.prog 400 os) #[bV 0 0 0 0 0 0, .int .i64 0, .int .i64 0, .int .i64 0, .int .i64 0] 8 rfl (World.shaped_of_RefB (by kernel_rfl) (by kernel_rfl)) (by kernel_rfl) (by kernel_rfl) (by kernel_rfl) (cpedersenBinds_met os _)) ?_
  intro W base args ds gs before hval0 hW _ _ hL _
  have hval : ∀ (j : Nat) t v, Tryd.f7.params[j]? = some t → args[j]? = some v → Value.okWide Tryd.prog W .any base t v := hval0
  have hW' := hW
  obtain ⟨pp, qq, hA0, hV, rfl, hfz, hnd⟩ := hW
  have hA : DataW.TrodAll enc Tryd.prog W 0 (fun _ => true) true Tryd.f7.params.toList args.toList ds pp := hA0
  rw [Tryd.params7] at hA hval
  obtain ⟨rfl, rfl⟩ := trodVars_none hV
  obtain ⟨p, q, g, g1, g2, h, a0, a1, a2, a3, rfl, rfl, rfl, w0, w1, w2, w3, w4⟩ := cpedersenBinds_open hA hval
  have hT := tabs_of_laid hL
  clear hA0 hval0 hA hval hV hfz hnd hL
  simp only [List.append_nil] at hW'
  obtain ⟨p1, p2⟩ := wf_range w0.p
  obtain ⟨q1, q2⟩ := wf_range w0.q
  refine (lawB_any p q g g1 g2 h a0 a1 a2 a3 W p1 p2 q1 q2 hT).mono fun e W' ⟨he, hb⟩ => ?_
  subst he
  refine ⟨_, rfl, post_plain hW' (fun _ _ _ => trodAll_mk1 (shut_bool Tryd.underlying4 _)) (fun sp => ?_) (fun _ => rfl) hb (ok_one (by kernel_rfl) rfl (okWide_bool_mk Tryd.underlying4 _))⟩
  exact cpedersenBinds_shut w0 w1 w2 w3 w4
theorem cpedersenBinds_row : Rows.PedersenBindsSaid :=
  OpenClaim.holds_of_wide 7 Tryd.f7 rfl rfl rfl rfl rfl rfl rfl ⟨rfl, rfl, rfl, rfl, rfl⟩ rfl rfl rfl rfl rfl (by kernel_rfl) Tryd.func7 (by kernel_rfl)
    (of_decide_eq_true (by kernel_rfl)) (by unfold Func.isWrapper; first | (rw [if_pos (by decide +kernel)]; kernel_rfl) | (rw [if_neg (by decide +kernel)]; exact ⟨rfl, rfl⟩))
    (fun os started H enc _ => cpedersenBinds_lifted os started H enc)
theorem pedersenBinds_holds : Rows.PedersenBindsCardSaid :=
  Claim7.holds_tied_plain_at .later [] [.data, .data] true (true, "7ed1c482369c3ddbcdda61cd2dec94277896bd931e198e98c8cdcdb0cdd1d2e7") false
    cpedersenBinds_row (fun _ h => by cases h) (by kernel_rfl) (fun _ h => by cases h) pedersenBinds_row_tie rfl ⟨rfl, rfl⟩ (by kernel_rfl) rfl
    (fun f fn hf hfn => by
      obtain rfl : f = 7 := Option.some.inj ((show Tryd.prog.funcNamed "specie/specielaw15.PedersenBinds" = some 7 by kernel_rfl).symm.trans hf) |>.symm
      obtain rfl : fn = Tryd.f7 := (Option.some.inj (Tryd.func7.symm.trans hfn)).symm
      exact ⟨by kernel_rfl, fun j t ht => by
        rw [Tryd.params7] at ht
        have hm : t ∈ [25, 3] := by
          have := Array.mem_of_getElem? ht
          simp at this ⊢
          first | exact this | omega
        have hall : ([25, 3].all fun u => !Tryd.prog.wantsStandIn u) = true := by kernel_rfl
        exact (show Tryd.prog.wantsStandIn t = false by simpa using List.all_eq_true.1 hall t hm)⟩)
    (by kernel_rfl)
#print axioms pedersenBinds_holds
end Go.Proofs.YtogbdnecpdcmiaaDoor
