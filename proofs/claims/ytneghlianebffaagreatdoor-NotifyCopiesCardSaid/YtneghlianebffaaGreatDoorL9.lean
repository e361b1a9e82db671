/- NotifyCopies: for every list of numbers the law returns true and leaves its argument as it was. No condition but the row's own: tables and variables of Go's library read as the program's text lays them (tied). -/
import Derived.Test.YtneghlianebffaaGreatDoorLB
import Derived.Test.YtneghlianebffaaGreatDoorE9
namespace Go.Proofs.YtneghlianebffaaGreatDoor
open Go Go.ChangeShapes Go.WideShapes Go.ChangeAt Go.RowKit Go.Ab
namespace L9
set_option maxRecDepth 10000 in
theorem law {H : Type} (ds : List (DataW H)) (ys : List AV) (h : QHC Tryz.prog 6 Tryz.f9.params.toList ds ys) : ACalls Tryz.prog 9 ys [] (.bool true) [] := by
  rw [Tryz.params9] at h
  obtain ⟨d0, _, y0, _, rfl, rfl, h0, h⟩ := QDI h
  cases QEQ h
  obtain ⟨l, h0⟩ := QFY (n := 4) Tryz.underlying45 Tryz.underlying3 h0
  cases h0.1
  exact QI1 l
theorem spec {H : Type} (xs : List (DataW H)) (h : xs.length = Tryz.f9.params.toList.length) : Rows.notifyCopiesSpec.fn H xs = { results := [.lit (.bool true)], args := xs } := by
  rw [Tryz.params9] at h
  obtain ⟨a, rfl⟩ := QYy h
  rfl
theorem met (os : Os) (args : Array Value) : laidMetH Tryz.prog Rows.notifyCopiesRow.laid ((World.laidAll Tryz.prog os Rows.notifyCopiesRow.laid).forCall (fun _ _ => 0) ⟨#[], args, []⟩).memory := by
  rw [MakeChecks.laidMetH_plain _ _ _ (by kernel_rfl)]; exact laidMet_laidAll _ (by kernel_rfl) (by kernel_rfl)
set_option maxRecDepth 100000 in
theorem reads (os : Os) {H : Type} (enc : TypeId × Value → H) : ∃ places, DataW.whole enc Tryz.prog ((World.laidAll Tryz.prog os Rows.notifyCopiesRow.laid).forCall (fun _ _ => 0) ⟨#[], #[.slice none 0 0], []⟩).memory Tryz.f9.params.toList Rows.notifyCopiesSpec.vars false #[.slice none 0 0].toList 8 = some ([.nil], [], places) :=
  ⟨[], by kernel_rfl⟩
set_option maxRecDepth 100000 in
theorem lifted (os : Os) (started : os.Started) (H : Type) (enc : TypeId × Value → H) (F : Stop.Interp) :
    ReturnsInHanded {} Tryz.checked os 9 .any ((OpenSpec.ofChange Rows.notifyCopiesSpec).preRow enc Tryz.prog Tryz.f9 Rows.notifyCopiesRow.domain false Rows.notifyCopiesRow.laid) (((OpenSpec.ofChange Rows.notifyCopiesSpec).at F).post enc Tryz.prog Tryz.f9 false true false false) := by
  obtain ⟨places, hx⟩ := reads os enc
  refine returnsInHanded_of_row (C := Tryz.checked) (s := (OpenSpec.ofChange Rows.notifyCopiesSpec)) own started (by kernel_rfl) Tryz.func9
    (QDL (enc := enc) (C := Tryz.checked) (World.laidAll Tryz.prog os Rows.notifyCopiesRow.laid) #[.slice none 0 0] (World.laidAll_os _ _ _) (World.shaped_of_ZipB (by kernel_rfl) (by kernel_rfl)) (by kernel_rfl)
      (OpenSpec.preRow_of_cond 8 hx (by kernel_rfl) (fun k hk => by cases hk) (by kernel_rfl) (met os _))) ?_
  intro W base args ds gs before hval hW _ hcond hsz hL hshape _
  exact QCx 6 (tb := 4) rfl rfl Tryz.underlying4 QHM (by kernel_rfl) (by kernel_rfl) spec hval hW (gok hshape) (QOl hshape) (fun ys => law ds ys)
theorem said : Rows.NotifyCopiesSaid :=
  OpenClaim.holds_of_cond 9 Tryz.f9 rfl rfl rfl rfl rfl rfl rfl ⟨rfl, rfl, rfl, rfl, rfl⟩ rfl rfl rfl rfl rfl (by kernel_rfl) Tryz.func9 (by kernel_rfl)
    (of_decide_eq_true (by kernel_rfl)) (by unfold Func.isWrapper; first | (rw [if_pos (by decide +kernel)]; kernel_rfl) | (rw [if_neg (by decide +kernel)]; exact ⟨rfl, rfl⟩))
    (fun os started H enc _ F => by rw [OpenClaim.pre_eq_preRow]; exact lifted os started H enc F)
theorem plain (f : FuncId) (fn : Func) (hf : Tryz.pinned.checked.prog.funcNamed "coldplug/coldpluglaw30.NotifyCopies" = some f) (hfn : Tryz.pinned.checked.prog.funcs[f]? = some fn) :
    true = Tryz.pinned.checked.prog.looks [] ∧ ∀ (j : Nat) t, fn.params[j]? = some t → Tryz.pinned.checked.prog.wantsStandIn t = false := by
  obtain rfl : f = 9 := Option.some.inj ((show Tryz.prog.funcNamed "coldplug/coldpluglaw30.NotifyCopies" = some 9 by kernel_rfl).symm.trans hf) |>.symm
  obtain rfl : fn = Tryz.f9 := (Option.some.inj (Tryz.func9.symm.trans hfn)).symm
  refine ⟨by kernel_rfl, fun j t ht => ?_⟩
  have hall : (Tryz.f9.params.toList.all fun u => !Tryz.prog.wantsStandIn u) = true := by kernel_rfl
  have hm : t ∈ Tryz.f9.params.toList := by simpa using Array.mem_of_getElem? ht
  exact (show Tryz.prog.wantsStandIn t = false by simpa using List.all_eq_true.1 hall t hm)
theorem card : Rows.NotifyCopiesCardSaid :=
  Claim7.holds_tied_plain_at .later [] _ _ _ _ said (fun _ h => by cases h) (by kernel_rfl) (fun _ h => by cases h) notifyCopies_row_tie rfl ⟨rfl, rfl⟩ (by kernel_rfl) rfl plain (by kernel_rfl)
end L9
end Go.Proofs.YtneghlianebffaaGreatDoor
