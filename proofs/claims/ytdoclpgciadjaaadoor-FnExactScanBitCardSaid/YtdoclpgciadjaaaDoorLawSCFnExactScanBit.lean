import Derived.Test.YtdoclpgciadjaaaDoorRows
import Derived.Test.YtdoclpgciadjaaaDoorTie
import Derived.Test.YtdoclpgciadjaaaDoorCards
import Derived.Test.YtdoclpgciadjaaaDoorSCFnExactScanBit21
import Derived.Test.YtdoclpgciadjaaaDoorSCFnExactScanBit34
import Derived.WalkKit
import Derived.ProofKit
import Derived.LaidMore
import Derived.OpenShut
import Derived.ShutString
import Derived.ChangeOld
import Derived.ChangeVars
import Derived.OpenVars
import Derived.Below
import Derived.SizedLaws
import Derived.Stop.Joined
import Derived.SevenTiedAt
/- ScanBit, row and card: for every scan and bit the law returns true (the table impl.rows reads as the row lays it); the row's tie to the program's text is the given one. -/
namespace Go.Proofs.YtdoclpgciadjaaaDoor.fnExactScanBit
open Go.ChangeShapes Go.WideShapes Go.ChangeAt Go.RowKit Go.Proofs.YtdoclpgciadjaaaDoor.P Go.Proofs.YtdoclpgciadjaaaDoorW.PrintWords
open Go.ChangeMaps (open_string shut_string)
set_option linter.unusedVariables false
theorem u32_nonneg {i : Int} (h : (Lit.int .u32 i).wf = true) : 0 ≤ i := by
  simp [Lit.wf, show IntKind.u32.min = 0 from rfl] at h
  exact h.1
theorem own : ownKnob Tryd.prog.godebug = none := by kernel_rfl
theorem laidOut : laidOutB Tryd.prog = true := by kernel_rfl
/-- What the row lays. -/
def laidL : List (String × DataW Unit) := [("loop.example/s01647/impl.rows", Rows.laid_loop_example_s01647_impl_rows)]
/-- The door's own heap meets the condition. -/
theorem door_met (os : Os) (args : Array Value) : laidMetH Tryd.prog laidL ((World.doorLaid Tryd.prog 400 os).forCall (fun _ _ => 0) ⟨#[], args, []⟩).memory :=
  laidMetH_of_parts3 (fuel := 8) (laidMet_of_run' 8 (by kernel_rfl) (by kernel_rfl)) (by kernel_rfl) (by kernel_rfl)
theorem of_laid {W : World} (h : laidMetH Tryd.prog laidL W) : LaidRows W := by
  rw [MakeChecks.laidMetH_plain _ _ _ (by kernel_rfl)] at h
  obtain ⟨ps, ⟨g0, t0, cs0, f0, p0, q0, hg0, ht0, hv0, hd0, _, _⟩, _, _⟩ := h
  obtain rfl := Option.some.inj (gRows.symm.trans hg0)
  obtain rfl := Option.some.inj (tRows.symm.trans ht0)
  exact laid_of_var hv0 hd0
set_option maxRecDepth 100000 in
theorem lifted (os : Os) (started : os.Started) (H : Type) (enc : TypeId × Value → H) :
    ReturnsInHanded {} Tryd.checked os 3 .any (fun w args => (Rows.fnExactScanBitSpec.pre enc Tryd.prog Tryd.f3 [] false w args ∧ laidMetH Tryd.prog laidL w) ∧ sizedMet enc Tryd.prog Tryd.f3 (OpenSpec.ofChange Rows.fnExactScanBitSpec) false w args)
      (Rows.fnExactScanBitSpec.post enc Tryd.prog Tryd.f3 false true false false) := by
  refine returnsInHanded_of_change_and (C := Tryd.checked) (X := fun w _ => laidMetH Tryd.prog laidL w) (fun _ _ _ hh h => h.of_heap hh) own started (by kernel_rfl) Tryd.func3
    (ChangeSpec.witness_shaped (enc := enc) (C := Tryd.checked) (os := os) (X := fun w _ => laidMetH Tryd.prog laidL w) false (World.doorLaid Tryd.prog 400 os) #[.agg #[.int .i64 0, .int .i64 0, .int .i64 0, .int .i64 0, .int .i64 0, .int .i64 0, .bool false, .int .u32 0, .bool false, .int .i64 0, .slice none 0 0], .int .i64 0] 8 rfl (World.shaped_of_RefB (by kernel_rfl) (by kernel_rfl)) (by kernel_rfl) (by kernel_rfl) (by kernel_rfl) (door_met os _)) ?_
  intro W base args ds gs before hval0 hW _ _ hL _
  have hval : ∀ (j : Nat) t v, Tryd.f3.params[j]? = some t → args[j]? = some v → Value.okWide Tryd.prog W .any base t v := hval0
  have hW' := hW
  obtain ⟨p, q, hA0, hV0, rfl, hfz, hnd⟩ := hW
  have hA : DataW.TrodAll enc Tryd.prog W 0 (fun _ => true) true Tryd.f3.params.toList args.toList ds p := hA0
  have hV : DataW.TrodVars enc Tryd.prog W (fun _ => true) ["loop.example/s01647/impl.rows"] gs q := hV0
  rw [Tryd.params3] at hA hval
  obtain ⟨v0, vs0, d0, ds0, p0, q0, hargs, rfl, rfl, h0, r0⟩ := trodAll_cons hA
  obtain ⟨v1, vs1, d1, ds1, p1, q1, rfl, rfl, rfl, h1, r1⟩ := trodAll_cons r0
  obtain ⟨rfl, rfl, rfl⟩ := trodAll_nil r1
  obtain rfl : args = #[v0, v1] := by cases args; simp_all
  have hG := of_laid hL
  have k0 := h0
  have lt0 : ∀ x ∈ p0, x.block < W.heap.size := by obtain ⟨m, hm⟩ := k0; exact DataW.trod_lt m _ _ _ hm
  obtain ⟨⟨cs0⟩, rfl, _⟩ := okWide_struct Tryd.underlying27 (hval 0 27 v0 rfl rfl)
  obtain ⟨fuel0, hf0⟩ := h0
  obtain ⟨x0, hK0, hB0⟩ := reads27 _ _ _ _ _ _ _ _ _ hf0
  obtain ⟨A0_10, c0_10, e0, l0_10, g0_10⟩ := k27_open hK0
  obtain rfl : cs0 = _ := e0
  clear hK0 hf0
  have k1 := h1
  have lt1 : ∀ x ∈ p1, x.block < W.heap.size := by obtain ⟨m, hm⟩ := k1; exact DataW.trod_lt m _ _ _ hm
  obtain ⟨x1, rfl, rfl, rfl, hB1⟩ := open_int Tryd.underlying3 (hval 1 3 v1 rfl rfl) h1
  obtain ⟨f0, f1, f2, f3, f4, f5, ⟨fe, fi, fr, fd, fl⟩⟩ := x0
  obtain ⟨_, _, _, _, _, _, ⟨_, hi, _, _, hl, hb⟩⟩ := hB0
  have hby := bytesOk_of hb
  have h0 : 0 ≤ fi := u32_nonneg hi
  have hks : KS W (⟨f0, f1, f2, f3, f4, f5, fe, fi, fr, fd, fl⟩ : SS) (cellsK ⟨f0, f1, f2, f3, f4, f5, fe, fi, fr, fd, fl⟩ (.slice A0_10 fl.length c0_10)) := ⟨A0_10, c0_10, rfl, g0_10, l0_10⟩
  refine (Pure.FnExactScanBit_walk ⟨f0, f1, f2, f3, f4, f5, fe, fi, fr, fd, fl⟩ x1 hl h0 hby W _ hks hG).mono fun e W' ⟨he, bel0⟩ => ?_
  have bel : Below W.heap.size W W' := bel0
  subst he
  obtain ⟨g1, rfl⟩ : ∃ g1, gs = [g1] := by
    match gs, hV with
    | [g1], _ => exact ⟨g1, rfl⟩
    | g1 :: g2 :: gs, hV =>
      obtain ⟨_, _, _, _, _, _, _, _, _, _, h, _⟩ := hV
      exact h.elim
  have vars_shut := Below.trodVars laidOut bel (by kernel_rfl) hV
  exact ⟨_, rfl, _, _, _, [], _, _, hW', trodAll_mk1 (shut_bool Tryd.underlying4 _), (trodAll_cons_mk (Below.trod laidOut (by kernel_rfl) (of_decide_eq_true (by kernel_rfl)) k0 bel lt0) (trodAll_cons_mk (Below.trod laidOut (by kernel_rfl) (of_decide_eq_true (by kernel_rfl)) k1 bel lt1) trodAll_mk0)), vars_shut, bel.frame _, fun h => by cases h⟩
theorem over : Rows.fnExactScanBitRow.holds Tryd.pinned (OpenSpec.ofChange Rows.fnExactScanBitSpec) :=
  OpenClaim.holds_of_wide 3 Tryd.f3 rfl rfl rfl rfl rfl rfl rfl ⟨rfl, rfl, rfl, rfl, rfl⟩ rfl rfl rfl rfl rfl (by kernel_rfl) Tryd.func3 (by kernel_rfl)
    (of_decide_eq_true (by kernel_rfl)) (by unfold Func.isWrapper; first | (rw [if_pos (by decide +kernel)]; kernel_rfl) | (rw [if_neg (by decide +kernel)]; exact ⟨rfl, rfl⟩))
    (fun os started H enc _ => lifted os started H enc)
end Go.Proofs.YtdoclpgciadjaaaDoor.fnExactScanBit
namespace Go.Proofs.YtdoclpgciadjaaaDoor
/-- The row. -/
theorem fnExactScanBit_row_holds : Rows.FnExactScanBitSaid := fnExactScanBit.over
/-- The tied card. -/
theorem fnExactScanBit_holds : Rows.FnExactScanBitCardSaid :=
  Claim7.holds_tied_plain_at .later [] [.data] true (true, "2531bfa80e1583af57256f99050ae45ba74d3b83075cef0df1cee691b271849c") false
    fnExactScanBit_row_holds (fun _ h => by cases h) (by kernel_rfl) (fun _ h => by cases h) fnExactScanBit_row_tie rfl ⟨rfl, rfl⟩ (by kernel_rfl) rfl
    (fun f fn hf hfn => by
      obtain rfl : f = 3 := Option.some.inj ((show Tryd.prog.funcNamed "loop.example/s01647/laws.FnExactScanBit" = some 3 by kernel_rfl).symm.trans hf) |>.symm
      obtain rfl : fn = Tryd.f3 := (Option.some.inj (Tryd.func3.symm.trans hfn)).symm
      exact ⟨by kernel_rfl, fun j t ht => by
        rw [Tryd.params3] at ht
        have hm : t ∈ [27, 3] := by simpa using Array.mem_of_getElem? ht
        have hall : ([27, 3].all fun u => !Tryd.prog.wantsStandIn u) = true := by kernel_rfl
        exact (show Tryd.prog.wantsStandIn t = false by simpa using List.all_eq_true.1 hall t hm)⟩)
    (by kernel_rfl)
#print axioms fnExactScanBit_holds
end Go.Proofs.YtdoclpgciadjaaaDoor
