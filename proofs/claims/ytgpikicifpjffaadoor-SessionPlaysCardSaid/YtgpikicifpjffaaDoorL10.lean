/- SessionPlays: for every list of numbers and every text the law returns true and leaves its arguments as they were. No condition but the row's own: three tables of Go's library read as the program's text lays them (tied). -/
import Derived.Test.YtgpikicifpjffaaDoorLB
import Derived.Test.YtgpikicifpjffaaDoorW8
namespace Go.Proofs.YtgpikicifpjffaaDoor
open Go Go.ChangeShapes Go.WideShapes Go.ChangeAt Go.RowKit Go.Ab
namespace L10
set_option maxRecDepth 10000 in
theorem law {H : Type} (ds : List (DataW H)) (ys : List AV) (h : RdAll Tryd.prog 4 Tryd.f10.params.toList ds ys) : ACalls Tryd.prog 10 ys [] (.bool true) [] := by
  rw [Tryd.params10] at h
  obtain ⟨d0, _, y0, _, rfl, rfl, h0, h⟩ := RdAll_cons h
  obtain ⟨d1, _, y1, _, rfl, rfl, h1, h⟩ := RdAll_cons h
  cases RdAll_nil h
  obtain ⟨t, h0⟩ := RdV_ints (n := 2) Tryd.underlying22 Tryd.underlying3 h0
  cases h0.1
  obtain ⟨s, h1⟩ := RdV_str (n := 3) Tryd.underlying9 h1
  cases h1
  exact Plays_c t s
theorem spec {H : Type} (xs : List (DataW H)) (h : xs.length = Tryd.f10.params.toList.length) : Rows.sessionPlaysSpec.fn H xs = { results := [.lit (.bool true)], args := xs } := by
  rw [Tryd.params10] at h
  obtain ⟨a, b, rfl⟩ := len2 h
  rfl
set_option maxRecDepth 100000 in
theorem lifted (os : Os) (started : os.Started) (H : Type) (enc : TypeId × Value → H) :
    ReturnsInHanded {} Tryd.checked os 10 .any (fun w args => (Rows.sessionPlaysSpec.pre enc Tryd.prog Tryd.f10 Rows.sessionPlaysRow.domain false w args ∧ laidMetH Tryd.prog Rows.sessionPlaysRow.laid w) ∧ sizedMet enc Tryd.prog Tryd.f10 (OpenSpec.ofChange Rows.sessionPlaysSpec) false w args)
      (Rows.sessionPlaysSpec.post enc Tryd.prog Tryd.f10 false true false false) := by
  refine returnsInHanded_of_change_and (C := Tryd.checked) (X := fun w _ => laidMetH Tryd.prog Rows.sessionPlaysRow.laid w) (fun _ _ _ hh h => h.of_heap hh) own started (by kernel_rfl) Tryd.func10
    (ChangeSpec.witness_shaped (enc := enc) (C := Tryd.checked) (os := os) (X := fun w _ => laidMetH Tryd.prog Rows.sessionPlaysRow.laid w) false (World.laidAll Tryd.prog os Rows.sessionPlaysRow.laid) #[.slice none 0 0, .string ⟨#[]⟩] 8 (World.laidAll_os _ _ _)
      (World.shaped_of_ZipB (by kernel_rfl) (by kernel_rfl)) (by kernel_rfl) (by kernel_rfl) (by kernel_rfl)
      (by rw [MakeChecks.laidMetH_plain _ _ _ (by kernel_rfl)]; exact laidMet_laidAll _ (by kernel_rfl) (by kernel_rfl))) ?_
  intro W base args ds gs before hval hW _ _ _ _
  exact law_contract 4 (tb := 4) rfl rfl Tryd.underlying4 laidOut (by kernel_rfl) (by kernel_rfl) spec hval hW (law ds)
theorem said : Rows.SessionPlaysSaid :=
  OpenClaim.holds_of_wide 10 Tryd.f10 rfl rfl rfl rfl rfl rfl rfl ⟨rfl, rfl, rfl, rfl, rfl⟩ rfl rfl rfl rfl rfl (by kernel_rfl) Tryd.func10 (by kernel_rfl)
    (of_decide_eq_true (by kernel_rfl)) (by unfold Func.isWrapper; first | (rw [if_pos (by decide +kernel)]; kernel_rfl) | (rw [if_neg (by decide +kernel)]; exact ⟨rfl, rfl⟩))
    (fun os started H enc _ => lifted os started H enc)
theorem plain (f : FuncId) (fn : Func) (hf : Tryd.pinned.checked.prog.funcNamed "coldplug/coldpluglaw37.SessionPlays" = some f) (hfn : Tryd.pinned.checked.prog.funcs[f]? = some fn) :
    false = Tryd.pinned.checked.prog.looks [] ∧ ∀ (j : Nat) t, fn.params[j]? = some t → Tryd.pinned.checked.prog.wantsStandIn t = false := by
  obtain rfl : f = 10 := Option.some.inj ((show Tryd.prog.funcNamed "coldplug/coldpluglaw37.SessionPlays" = some 10 by kernel_rfl).symm.trans hf) |>.symm
  obtain rfl : fn = Tryd.f10 := (Option.some.inj (Tryd.func10.symm.trans hfn)).symm
  refine ⟨by kernel_rfl, fun j t ht => ?_⟩
  have hall : (Tryd.f10.params.toList.all fun u => !Tryd.prog.wantsStandIn u) = true := by kernel_rfl
  have hm : t ∈ Tryd.f10.params.toList := by simpa using Array.mem_of_getElem? ht
  exact (show Tryd.prog.wantsStandIn t = false by simpa using List.all_eq_true.1 hall t hm)
theorem card : Rows.SessionPlaysCardSaid :=
  Claim7.holds_tied_plain_at .later [] _ _ _ _ said (fun _ h => by cases h) (by kernel_rfl) (fun _ h => by cases h) sessionPlays_row_tie rfl ⟨rfl, rfl⟩ (by kernel_rfl) rfl plain (by kernel_rfl)
end L10
end Go.Proofs.YtgpikicifpjffaaDoor
