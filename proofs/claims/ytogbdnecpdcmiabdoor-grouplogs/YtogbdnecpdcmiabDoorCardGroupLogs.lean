/-
  GroupLogs is proved: for all arguments the call of the law returns true and its arguments read as before, where the package variables begin as the program's text lays them (the card ties them to it).
-/
import Derived.Test.YtogbdnecpdcmiabDoorG2L
import Derived.Test.YtogbdnecpdcmiabDoorJ5
import Derived.Test.YtogbdnecpdcmiabDoorTie
import Derived.Test.YtogbdnecpdcmiabDoorCards
import Derived.SevenTiedAt
namespace Go.Proofs.YtogbdnecpdcmiabDoor
open Go Go.ChangeShapes Go.WideShapes Go.ChangeAt Go.RowKit
theorem cgroupLogs_met (os : Os) (args : Array Value) : laidMetH Tryd.prog [("math/bits.deBruijn64tab", Rows.laid_math_bits_deBruijn64tab), ("specie/prime.bases", Rows.laid_specie_prime_bases)] ((World.doorLaid Tryd.prog 400 os).forCall (fun _ _ => 0) ⟨#[], args, []⟩).memory :=
  laidMetH_of_parts3 (fuel := 8) (laidMet_of_run' 8 (by kernel_rfl) (by kernel_rfl)) (by kernel_rfl) (by kernel_rfl)
set_option maxRecDepth 100000 in
theorem cgroupLogs_open {H : Type} {enc : TypeId × Value → H} {W : World} {base b0 : Nat} {r : Reach} {sp : Nat → Bool} {held : Bool} {args : Array Value} {ds : List (DataW H)} {ps : List MemPlace} (hA : DataW.TrodAll enc Tryd.prog W b0 sp held [24, 3, 3] args.toList ds ps)
    (hval : ∀ (j : Nat) t v, (#[24, 3, 3] : Array TypeId)[j]? = some t → args[j]? = some v → Value.okWide Tryd.prog W r base t v) :
    ∃ p0 q0 g0 a1 a2 : Int, args = #[gV p0 q0 g0, .int .i64 a1, .int .i64 a2] ∧ ds = [groupD p0 q0 g0, .lit (.int .i64 a1), .lit (.int .i64 a2)] ∧ ps = [] ∧ GWf p0 q0 g0 ∧ (Lit.int .i64 a1).wf = true ∧ (Lit.int .i64 a2).wf = true := by
  obtain ⟨v0, vs0, d0, ds0, p0', q0', e0, rfl, rfl, h0, t0⟩ := trodAll_cons hA
  obtain ⟨v1, vs1, d1, ds1, p1', q1', rfl, rfl, rfl, h1, t1⟩ := trodAll_cons t0
  obtain ⟨v2, vs2, d2, ds2, p2', q2', rfl, rfl, rfl, h2, t2⟩ := trodAll_cons t1
  obtain ⟨rfl, rfl, rfl⟩ := trodAll_nil t2
  have ea : args = #[v0, v1, v2] := by cases args; simp_all
  subst ea
  obtain ⟨p0, q0, g0, rfl, rfl, rfl, w0⟩ := open_group (hval 0 _ v0 rfl rfl) h0
  obtain ⟨a1, rfl, rfl, rfl, w1⟩ := open_int Tryd.underlying3 (hval 1 _ v1 rfl rfl) h1
  obtain ⟨a2, rfl, rfl, rfl, w2⟩ := open_int Tryd.underlying3 (hval 2 _ v2 rfl rfl) h2
  exact ⟨p0, q0, g0, a1, a2, rfl, rfl, rfl, w0, w1, w2⟩
theorem cgroupLogs_shut {H : Type} {enc : TypeId × Value → H} {W : World} {b0 : Nat} {sp : Nat → Bool} {held : Bool} {p0 q0 g0 a1 a2 : Int} (w0 : GWf p0 q0 g0) (w1 : (Lit.int .i64 a1).wf = true) (w2 : (Lit.int .i64 a2).wf = true) :
    DataW.TrodAll enc Tryd.prog W b0 sp held [24, 3, 3] (#[gV p0 q0 g0, .int .i64 a1, .int .i64 a2] : Array Value).toList [groupD p0 q0 g0, .lit (.int .i64 a1), .lit (.int .i64 a2)] [] :=
  (trodAll_cons_mk (p := []) (p' := []) (shut_group w0) (trodAll_cons_mk (p := []) (p' := []) (shut_int Tryd.underlying3 w1) (trodAll_cons_mk (p := []) (p' := []) (shut_int Tryd.underlying3 w2) trodAll_mk0)))
set_option maxRecDepth 100000 in
theorem cgroupLogs_lifted (os : Os) (started : os.Started) (H : Type) (enc : TypeId × Value → H) :
    ReturnsInHanded {} Tryd.checked os 5 .any (fun w args => (Rows.groupLogsSpec.pre enc Tryd.prog Tryd.f5 [] false w args ∧ laidMetH Tryd.prog [("math/bits.deBruijn64tab", Rows.laid_math_bits_deBruijn64tab), ("specie/prime.bases", Rows.laid_specie_prime_bases)] w) ∧ sizedMet enc Tryd.prog Tryd.f5 (OpenSpec.ofChange Rows.groupLogsSpec) false w args)
      (Rows.groupLogsSpec.post enc Tryd.prog Tryd.f5 false true false false) := by
  refine returnsInHanded_of_change_and (C := Tryd.checked) (X := fun w _ => laidMetH Tryd.prog [("math/bits.deBruijn64tab", Rows.laid_math_bits_deBruijn64tab), ("specie/prime.bases", Rows.laid_specie_prime_bases)] w) (fun _ _ _ hh h => h.of_heap hh) own started (by kernel_rfl) Tryd.func5
    (ChangeSpec.witness_shaped (enc := enc) (C := Tryd.checked) (os := os) (X := fun w _ => laidMetH Tryd.prog [("math/bits.deBruijn64tab", Rows.laid_math_bits_deBruijn64tab), ("specie/prime.bases", Rows.laid_specie_prime_bases)] w) false (World.doorLaid Tryd.prog 400 os) #[gV 0 0 0, .int .i64 0, .int .i64 0] 8 rfl (World.shaped_of_RefB (by kernel_rfl) (by kernel_rfl)) (by kernel_rfl) (by kernel_rfl) (by kernel_rfl) (cgroupLogs_met os _)) ?_
  intro W base args ds gs before hval0 hW _ _ hL _
  have hval : ∀ (j : Nat) t v, Tryd.f5.params[j]? = some t → args[j]? = some v → Value.okWide Tryd.prog W .any base t v := hval0
  have hW' := hW
  obtain ⟨pp, qq, hA0, hV, rfl, hfz, hnd⟩ := hW
  have hA : DataW.TrodAll enc Tryd.prog W 0 (fun _ => true) true Tryd.f5.params.toList args.toList ds pp := hA0
  rw [Tryd.params5] at hA hval
  obtain ⟨rfl, rfl⟩ := trodVars_none hV
  obtain ⟨p0, q0, g0, a1, a2, rfl, rfl, rfl, w0, w1, w2⟩ := cgroupLogs_open hA hval
  have hT := tabs_of_laid hL
  clear hA0 hval0 hA hval hV hfz hnd hL
  simp only [List.append_nil] at hW'
  obtain ⟨r0l, r0h⟩ := wf_range w0.p
  obtain ⟨s0l, s0h⟩ := wf_range w0.q
  refine (lawL_any p0 q0 g0 a1 a2 W r0l r0h s0l s0h hT).mono fun e W' ⟨he, hb⟩ => ?_
  subst he
  refine ⟨_, rfl, post_plain hW' (fun _ _ _ => trodAll_mk1 (shut_bool Tryd.underlying4 _)) (fun sp => ?_) (fun _ => rfl) hb (ok_one (by kernel_rfl) rfl (okWide_bool_mk Tryd.underlying4 _))⟩
  exact cgroupLogs_shut w0 w1 w2
theorem cgroupLogs_row : Rows.GroupLogsSaid :=
  OpenClaim.holds_of_wide 5 Tryd.f5 rfl rfl rfl rfl rfl rfl rfl ⟨rfl, rfl, rfl, rfl, rfl⟩ rfl rfl rfl rfl rfl (by kernel_rfl) Tryd.func5 (by kernel_rfl)
    (of_decide_eq_true (by kernel_rfl)) (by unfold Func.isWrapper; first | (rw [if_pos (by decide +kernel)]; kernel_rfl) | (rw [if_neg (by decide +kernel)]; exact ⟨rfl, rfl⟩))
    (fun os started H enc _ => cgroupLogs_lifted os started H enc)
theorem groupLogs_holds : Rows.GroupLogsCardSaid :=
  Claim7.holds_tied_plain_at .later [] [.data, .data] true (true, "1baa695e0a012aa130fadeff3b8e8042c0ac14eb0d8def0ef20f58971a799fdc") false
    cgroupLogs_row (fun _ h => by cases h) (by kernel_rfl) (fun _ h => by cases h) groupLogs_row_tie rfl ⟨rfl, rfl⟩ (by kernel_rfl) rfl
    (fun f fn hf hfn => by
      obtain rfl : f = 5 := Option.some.inj ((show Tryd.prog.funcNamed "specie/specielaw10.GroupLogs" = some 5 by kernel_rfl).symm.trans hf) |>.symm
      obtain rfl : fn = Tryd.f5 := (Option.some.inj (Tryd.func5.symm.trans hfn)).symm
      exact ⟨by kernel_rfl, fun j t ht => by
        rw [Tryd.params5] at ht
        have hm : t ∈ [24, 3] := by
          have := Array.mem_of_getElem? ht
          simp at this ⊢
          first | exact this | omega
        have hall : ([24, 3].all fun u => !Tryd.prog.wantsStandIn u) = true := by kernel_rfl
        exact (show Tryd.prog.wantsStandIn t = false by simpa using List.all_eq_true.1 hall t hm)⟩)
    (by kernel_rfl)
#print axioms groupLogs_holds
end Go.Proofs.YtogbdnecpdcmiabDoor
