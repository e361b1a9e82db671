/- RecordNames: for all two texts the law returns true and leaves its arguments as they were. No condition but the row's own: tables and variables of Go's library read as the program's text lays them (tied). -/
import Derived.Test.YtpdffpipeeddbaaGreatDoorX5
import Derived.Test.YtpdffpipeeddbaaGreatDoorLR
namespace Go.Proofs.YtpdffpipeeddbaaGreatDoor
open Go Go.ChangeShapes Go.WideShapes Go.ChangeAt Go.RowKit Go.Ab
namespace L11
set_option maxRecDepth 10000 in
theorem law {H : Type} (ds : List (DataW H)) (ys : List AV) (hz : (DataW.weightsEach Tryz.prog Tryz.f11.params.toList ds).all (· ≤ reachBytes) = true) (h : RdAll Tryz.prog 6 Tryz.f11.params.toList ds ys) : ACalls Tryz.prog 11 ys [] (.bool true) [] := by
  rw [Tryz.params11] at h hz
  obtain ⟨d0, _, y0, _, rfl, rfl, h0, h⟩ := RdAll_cons h
  obtain ⟨d1, _, y1, _, rfl, rfl, h1, h⟩ := RdAll_cons h
  cases RdAll_nil h
  obtain ⟨p, h0, hb0, hd0⟩ := RdV_strB (n := 5) Tryz.underlying9 h0
  cases h0
  obtain ⟨e, h1, hb1, hd1⟩ := RdV_strB (n := 5) Tryz.underlying9 h1
  cases h1
  exact RecordNames_c p e (by have := weights_str (i := 0) (t := 9) (by rw [hd0]; rfl) rfl hz; unfold reachBytes at this; omega) (by have := weights_str (i := 1) (t := 9) (by rw [hd1]; rfl) rfl hz; unfold reachBytes at this; omega)
theorem spec {H : Type} (xs : List (DataW H)) (h : xs.length = Tryz.f11.params.toList.length) : Rows.recordNamesSpec.fn H xs = { results := [.lit (.bool true)], args := xs } := by
  rw [Tryz.params11] at h
  obtain ⟨a, b, rfl⟩ := len2 h
  rfl
theorem met (os : Os) (args : Array Value) : laidMetH Tryz.prog Rows.recordNamesRow.laid ((World.laidAll Tryz.prog os Rows.recordNamesRow.laid).forCall (fun _ _ => 0) ⟨#[], args, []⟩).memory := by
  rw [MakeChecks.laidMetH_plain _ _ _ (by kernel_rfl)]; exact laidMet_laidAll _ (by kernel_rfl) (by kernel_rfl)
set_option maxRecDepth 100000 in
theorem reads (os : Os) {H : Type} (enc : TypeId × Value → H) : ∃ places, DataW.whole enc Tryz.prog ((World.laidAll Tryz.prog os Rows.recordNamesRow.laid).forCall (fun _ _ => 0) ⟨#[], #[.string ⟨#[]⟩, .string ⟨#[]⟩], []⟩).memory Tryz.f11.params.toList Rows.recordNamesSpec.vars false #[.string ⟨#[]⟩, .string ⟨#[]⟩].toList 8 = some ([.lit (.string []), .lit (.string [])], [], places) :=
  ⟨[], by kernel_rfl⟩
set_option maxRecDepth 100000 in
theorem lifted (os : Os) (started : os.Started) (H : Type) (enc : TypeId × Value → H) (F : Stop.Interp) :
    ReturnsInHanded {} Tryz.checked os 11 .any ((OpenSpec.ofChange Rows.recordNamesSpec).preRow enc Tryz.prog Tryz.f11 Rows.recordNamesRow.domain false Rows.recordNamesRow.laid) (((OpenSpec.ofChange Rows.recordNamesSpec).at F).post enc Tryz.prog Tryz.f11 false true false false) := by
  obtain ⟨places, hx⟩ := reads os enc
  refine returnsInHanded_of_row (C := Tryz.checked) (s := (OpenSpec.ofChange Rows.recordNamesSpec)) own started (by kernel_rfl) Tryz.func11
    (witness_row (enc := enc) (C := Tryz.checked) (World.laidAll Tryz.prog os Rows.recordNamesRow.laid) #[.string ⟨#[]⟩, .string ⟨#[]⟩] (World.laidAll_os _ _ _) (World.shaped_of_ZipB (by kernel_rfl) (by kernel_rfl)) (by kernel_rfl)
      (OpenSpec.preRow_of_cond 8 hx (by kernel_rfl) (fun k hk => by cases hk) (by kernel_rfl) (met os _))) ?_
  intro W base args ds gs before hval hW _ hcond hsz hL hshape _
  have hgs : gs = [] := by
    obtain ⟨p, q, _, hV, _⟩ := hW
    cases gs with
    | nil => rfl
    | cons g r => exact hV.elim
  subst hgs
  have hz : (DataW.weightsEach Tryz.prog Tryz.f11.params.toList ds).all (· ≤ reachBytes) = true := by
    have := hsz
    rw [List.append_nil] at this
    exact this
  exact law_contract 6 (tb := 4) rfl rfl Tryz.underlying4 laidOut (by kernel_rfl) (by kernel_rfl) spec hval hW (gok hL (by kernel_rfl) hshape (by simp [Rows.recordNamesRow, show Lib.tabData .u64 Lib.pow10Tab = (Rows.laid_internal_strconv_uint64pow10 : DataW Unit) from rfl]) (by simp [Rows.recordNamesRow]) (by simp [Rows.recordNamesRow]) (by simp [Rows.recordNamesRow, show Lib.tabData .u8 bruijn = (Rows.laid_math_bits_deBruijn64tab : DataW Unit) from rfl])) (heap9 hshape) (fun ys => law ds ys hz)
theorem said : Rows.RecordNamesSaid :=
  OpenClaim.holds_of_cond 11 Tryz.f11 rfl rfl rfl rfl rfl rfl rfl ⟨rfl, rfl, rfl, rfl, rfl⟩ rfl rfl rfl rfl rfl (by kernel_rfl) Tryz.func11 (by kernel_rfl)
    (of_decide_eq_true (by kernel_rfl)) (by unfold Func.isWrapper; first | (rw [if_pos (by decide +kernel)]; kernel_rfl) | (rw [if_neg (by decide +kernel)]; exact ⟨rfl, rfl⟩))
    (fun os started H enc _ F => by rw [OpenClaim.pre_eq_preRow]; exact lifted os started H enc F)
theorem plain (f : FuncId) (fn : Func) (hf : Tryz.pinned.checked.prog.funcNamed "coldplug/coldpluglaw25.RecordNames" = some f) (hfn : Tryz.pinned.checked.prog.funcs[f]? = some fn) :
    true = Tryz.pinned.checked.prog.looks [] ∧ ∀ (j : Nat) t, fn.params[j]? = some t → Tryz.pinned.checked.prog.wantsStandIn t = false := by
  obtain rfl : f = 11 := Option.some.inj ((show Tryz.prog.funcNamed "coldplug/coldpluglaw25.RecordNames" = some 11 by kernel_rfl).symm.trans hf) |>.symm
  obtain rfl : fn = Tryz.f11 := (Option.some.inj (Tryz.func11.symm.trans hfn)).symm
  refine ⟨by kernel_rfl, fun j t ht => ?_⟩
  have hall : (Tryz.f11.params.toList.all fun u => !Tryz.prog.wantsStandIn u) = true := by kernel_rfl
  have hm : t ∈ Tryz.f11.params.toList := by simpa using Array.mem_of_getElem? ht
  exact (show Tryz.prog.wantsStandIn t = false by simpa using List.all_eq_true.1 hall t hm)
theorem card : Rows.RecordNamesCardSaid :=
  Claim7.holds_tied_plain_at .later [] _ _ _ _ said (fun _ h => by cases h) (by kernel_rfl) (fun _ h => by cases h) recordNames_row_tie rfl ⟨rfl, rfl⟩ (by kernel_rfl) rfl plain (by kernel_rfl)
end L11
end Go.Proofs.YtpdffpipeeddbaaGreatDoor
