/- SessionCircle: for every list of numbers the law returns true and leaves its argument as it was. No condition but the row's own: three tables of Go's library read as the program's text lays them (tied). -/
import Derived.Test.YtgpikicifpjffaaDoorLB
import Derived.Test.YtgpikicifpjffaaDoorW9
namespace Go.Proofs.YtgpikicifpjffaaDoor
open Go Go.ChangeShapes Go.WideShapes Go.ChangeAt Go.RowKit Go.Ab
namespace L3
set_option maxRecDepth 10000 in
theorem law {H : Type} (ds : List (DataW H)) (ys : List AV) (h : RdAll Tryd.prog 4 Tryd.f3.params.toList ds ys) : ACalls Tryd.prog 3 ys [] (.bool true) [] := by
  rw [Tryd.params3] at h
  obtain ⟨d0, _, y0, _, rfl, rfl, h0, h⟩ := RdAll_cons h
  cases RdAll_nil h
  obtain ⟨t, h0⟩ := RdV_ints (n := 2) Tryd.underlying22 Tryd.underlying3 h0
  cases h0.1
  exact Circle_c t
theorem spec {H : Type} (xs : List (DataW H)) (h : xs.length = Tryd.f3.params.toList.length) : Rows.sessionCircleSpec.fn H xs = { results := [.lit (.bool true)], args := xs } := by
  rw [Tryd.params3] at h
  obtain ⟨a, rfl⟩ := len1 h
  rfl
set_option maxRecDepth 100000 in
theorem lifted (os : Os) (started : os.Started) (H : Type) (enc : TypeId × Value → H) :
    ReturnsInHanded {} Tryd.checked os 3 .any (fun w args => (Rows.sessionCircleSpec.pre enc Tryd.prog Tryd.f3 Rows.sessionCircleRow.domain false w args ∧ laidMetH Tryd.prog Rows.sessionCircleRow.laid w) ∧ sizedMet enc Tryd.prog Tryd.f3 (OpenSpec.ofChange Rows.sessionCircleSpec) false w args)
      (Rows.sessionCircleSpec.post enc Tryd.prog Tryd.f3 false true false false) := by
  refine returnsInHanded_of_change_and (C := Tryd.checked) (X := fun w _ => laidMetH Tryd.prog Rows.sessionCircleRow.laid w) (fun _ _ _ hh h => h.of_heap hh) own started (by kernel_rfl) Tryd.func3
    (ChangeSpec.witness_shaped (enc := enc) (C := Tryd.checked) (os := os) (X := fun w _ => laidMetH Tryd.prog Rows.sessionCircleRow.laid w) false (World.laidAll Tryd.prog os Rows.sessionCircleRow.laid) #[.slice none 0 0] 8 (World.laidAll_os _ _ _)
      (World.shaped_of_ZipB (by kernel_rfl) (by kernel_rfl)) (by kernel_rfl) (by kernel_rfl) (by kernel_rfl)
      (by rw [MakeChecks.laidMetH_plain _ _ _ (by kernel_rfl)]; exact laidMet_laidAll _ (by kernel_rfl) (by kernel_rfl))) ?_
  intro W base args ds gs before hval hW _ _ _ _
  exact law_contract 4 (tb := 4) rfl rfl Tryd.underlying4 laidOut (by kernel_rfl) (by kernel_rfl) spec hval hW (law ds)
theorem said : Rows.SessionCircleSaid :=
  OpenClaim.holds_of_wide 3 Tryd.f3 rfl rfl rfl rfl rfl rfl rfl ⟨rfl, rfl, rfl, rfl, rfl⟩ rfl rfl rfl rfl rfl (by kernel_rfl) Tryd.func3 (by kernel_rfl)
    (of_decide_eq_true (by kernel_rfl)) (by unfold Func.isWrapper; first | (rw [if_pos (by decide +kernel)]; kernel_rfl) | (rw [if_neg (by decide +kernel)]; exact ⟨rfl, rfl⟩))
    (fun os started H enc _ => lifted os started H enc)
theorem plain (f : FuncId) (fn : Func) (hf : Tryd.pinned.checked.prog.funcNamed "coldplug/coldpluglaw37.SessionCircle" = some f) (hfn : Tryd.pinned.checked.prog.funcs[f]? = some fn) :
    false = Tryd.pinned.checked.prog.looks [] ∧ ∀ (j : Nat) t, fn.params[j]? = some t → Tryd.pinned.checked.prog.wantsStandIn t = false := by
  obtain rfl : f = 3 := Option.some.inj ((show Tryd.prog.funcNamed "coldplug/coldpluglaw37.SessionCircle" = some 3 by kernel_rfl).symm.trans hf) |>.symm
  obtain rfl : fn = Tryd.f3 := (Option.some.inj (Tryd.func3.symm.trans hfn)).symm
  refine ⟨by kernel_rfl, fun j t ht => ?_⟩
  have hall : (Tryd.f3.params.toList.all fun u => !Tryd.prog.wantsStandIn u) = true := by kernel_rfl
  have hm : t ∈ Tryd.f3.params.toList := by simpa using Array.mem_of_getElem? ht
  exact (show Tryd.prog.wantsStandIn t = false by simpa using List.all_eq_true.1 hall t hm)
theorem card : Rows.SessionCircleCardSaid :=
  Claim7.holds_tied_plain_at .later [] _ _ _ _ said (fun _ h => by cases h) (by kernel_rfl) (fun _ h => by cases h) sessionCircle_row_tie rfl ⟨rfl, rfl⟩ (by kernel_rfl) rfl plain (by kernel_rfl)
end L3
end Go.Proofs.YtgpikicifpjffaaDoor
