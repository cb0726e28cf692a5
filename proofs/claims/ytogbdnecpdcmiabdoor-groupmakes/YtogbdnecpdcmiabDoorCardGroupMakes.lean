/-
  GroupMakes is proved: for all arguments the call of the law returns true and its arguments read as before, where the package variables begin as the program's text lays them (the card ties them to it).
-/
import Derived.Test.YtogbdnecpdcmiabDoorG2M
import Derived.Test.YtogbdnecpdcmiabDoorJ5
import Derived.Test.YtogbdnecpdcmiabDoorTie
import Derived.Test.YtogbdnecpdcmiabDoorCards
import Derived.SevenTiedAt
namespace Go.Proofs.YtogbdnecpdcmiabDoor
open Go Go.ChangeShapes Go.WideShapes Go.ChangeAt Go.RowKit
theorem cgroupMakes_met (os : Os) (args : Array Value) : laidMetH Tryd.prog [("math/bits.deBruijn64tab", Rows.laid_math_bits_deBruijn64tab), ("specie/prime.bases", Rows.laid_specie_prime_bases)] ((World.doorLaid Tryd.prog 400 os).forCall (fun _ _ => 0) ⟨#[], args, []⟩).memory :=
  laidMetH_of_parts3 (fuel := 8) (laidMet_of_run' 8 (by kernel_rfl) (by kernel_rfl)) (by kernel_rfl) (by kernel_rfl)
set_option maxRecDepth 100000 in
theorem cgroupMakes_open {H : Type} {enc : TypeId × Value → H} {W : World} {base b0 : Nat} {r : Reach} {sp : Nat → Bool} {held : Bool} {args : Array Value} {ds : List (DataW H)} {ps : List MemPlace} (hA : DataW.TrodAll enc Tryd.prog W b0 sp held [3] args.toList ds ps)
    (hval : ∀ (j : Nat) t v, (#[3] : Array TypeId)[j]? = some t → args[j]? = some v → Value.okWide Tryd.prog W r base t v) :
    ∃ a0 : Int, args = #[.int .i64 a0] ∧ ds = [.lit (.int .i64 a0)] ∧ ps = [] ∧ (Lit.int .i64 a0).wf = true := by
  obtain ⟨v0, vs0, d0, ds0, p0', q0', e0, rfl, rfl, h0, t0⟩ := trodAll_cons hA
  obtain ⟨rfl, rfl, rfl⟩ := trodAll_nil t0
  have ea : args = #[v0] := by cases args; simp_all
  subst ea
  obtain ⟨a0, rfl, rfl, rfl, w0⟩ := open_int Tryd.underlying3 (hval 0 _ v0 rfl rfl) h0
  exact ⟨a0, rfl, rfl, rfl, w0⟩
theorem cgroupMakes_shut {H : Type} {enc : TypeId × Value → H} {W : World} {b0 : Nat} {sp : Nat → Bool} {held : Bool} {a0 : Int} (w0 : (Lit.int .i64 a0).wf = true) :
    DataW.TrodAll enc Tryd.prog W b0 sp held [3] (#[.int .i64 a0] : Array Value).toList [.lit (.int .i64 a0)] [] :=
  (trodAll_cons_mk (p := []) (p' := []) (shut_int Tryd.underlying3 w0) trodAll_mk0)
set_option maxRecDepth 100000 in
theorem cgroupMakes_lifted (os : Os) (started : os.Started) (H : Type) (enc : TypeId × Value → H) :
    ReturnsInHanded {} Tryd.checked os 3 .any (fun w args => (Rows.groupMakesSpec.pre enc Tryd.prog Tryd.f3 [] false w args ∧ laidMetH Tryd.prog [("math/bits.deBruijn64tab", Rows.laid_math_bits_deBruijn64tab), ("specie/prime.bases", Rows.laid_specie_prime_bases)] w) ∧ sizedMet enc Tryd.prog Tryd.f3 (OpenSpec.ofChange Rows.groupMakesSpec) false w args)
      (Rows.groupMakesSpec.post enc Tryd.prog Tryd.f3 false true false false) := by
  refine returnsInHanded_of_change_and (C := Tryd.checked) (X := fun w _ => laidMetH Tryd.prog [("math/bits.deBruijn64tab", Rows.laid_math_bits_deBruijn64tab), ("specie/prime.bases", Rows.laid_specie_prime_bases)] w) (fun _ _ _ hh h => h.of_heap hh) own started (by kernel_rfl) Tryd.func3
    (ChangeSpec.witness_shaped (enc := enc) (C := Tryd.checked) (os := os) (X := fun w _ => laidMetH Tryd.prog [("math/bits.deBruijn64tab", Rows.laid_math_bits_deBruijn64tab), ("specie/prime.bases", Rows.laid_specie_prime_bases)] w) false (World.doorLaid Tryd.prog 400 os) #[.int .i64 0] 8 rfl (World.shaped_of_RefB (by kernel_rfl) (by kernel_rfl)) (by kernel_rfl) (by kernel_rfl) (by kernel_rfl) (cgroupMakes_met os _)) ?_
  intro W base args ds gs before hval0 hW _ _ hL _
  have hval : ∀ (j : Nat) t v, Tryd.f3.params[j]? = some t → args[j]? = some v → Value.okWide Tryd.prog W .any base t v := hval0
  have hW' := hW
  obtain ⟨pp, qq, hA0, hV, rfl, hfz, hnd⟩ := hW
  have hA : DataW.TrodAll enc Tryd.prog W 0 (fun _ => true) true Tryd.f3.params.toList args.toList ds pp := hA0
  rw [Tryd.params3] at hA hval
  obtain ⟨rfl, rfl⟩ := trodVars_none hV
  obtain ⟨a0, rfl, rfl, rfl, w0⟩ := cgroupMakes_open hA hval
  have hT := tabs_of_laid hL
  clear hA0 hval0 hA hval hV hfz hnd hL
  simp only [List.append_nil] at hW'
  obtain ⟨r0l, r0h⟩ := wf_range w0
  refine (lawM_any a0 W r0l r0h hT).mono fun e W' ⟨he, hb⟩ => ?_
  subst he
  refine ⟨_, rfl, post_plain hW' (fun _ _ _ => trodAll_mk1 (shut_bool Tryd.underlying4 _)) (fun sp => ?_) (fun _ => rfl) hb (ok_one (by kernel_rfl) rfl (okWide_bool_mk Tryd.underlying4 _))⟩
  exact cgroupMakes_shut w0
theorem cgroupMakes_row : Rows.GroupMakesSaid :=
  OpenClaim.holds_of_wide 3 Tryd.f3 rfl rfl rfl rfl rfl rfl rfl ⟨rfl, rfl, rfl, rfl, rfl⟩ rfl rfl rfl rfl rfl (by kernel_rfl) Tryd.func3 (by kernel_rfl)
    (of_decide_eq_true (by kernel_rfl)) (by unfold Func.isWrapper; first | (rw [if_pos (by decide +kernel)]; kernel_rfl) | (rw [if_neg (by decide +kernel)]; exact ⟨rfl, rfl⟩))
    (fun os started H enc _ => cgroupMakes_lifted os started H enc)
theorem groupMakes_holds : Rows.GroupMakesCardSaid :=
  Claim7.holds_tied_plain_at .later [] [.data, .data] true (true, "1baa695e0a012aa130fadeff3b8e8042c0ac14eb0d8def0ef20f58971a799fdc") false
    cgroupMakes_row (fun _ h => by cases h) (by kernel_rfl) (fun _ h => by cases h) groupMakes_row_tie rfl ⟨rfl, rfl⟩ (by kernel_rfl) rfl
    (fun f fn hf hfn => by
      obtain rfl : f = 3 := Option.some.inj ((show Tryd.prog.funcNamed "specie/specielaw10.GroupMakes" = some 3 by kernel_rfl).symm.trans hf) |>.symm
      obtain rfl : fn = Tryd.f3 := (Option.some.inj (Tryd.func3.symm.trans hfn)).symm
      exact ⟨by kernel_rfl, fun j t ht => by
        rw [Tryd.params3] at ht
        have hm : t ∈ [3] := by
          have := Array.mem_of_getElem? ht
          simp at this ⊢
          first | exact this | omega
        have hall : ([3].all fun u => !Tryd.prog.wantsStandIn u) = true := by kernel_rfl
        exact (show Tryd.prog.wantsStandIn t = false by simpa using List.all_eq_true.1 hall t hm)⟩)
    (by kernel_rfl)
#print axioms groupMakes_holds
end Go.Proofs.YtogbdnecpdcmiabDoor
