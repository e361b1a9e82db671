/- SessionOpens: for every list of numbers, every user, every seat and every list of seats the law returns true and leaves its arguments as they were. No condition but the row's own: three tables of Go's library read as the program's text lays them (tied). -/
import Derived.Test.YtgpikicifpjffaaDoorW3
import Derived.Test.YtgpikicifpjffaaDoorA7
import Derived.Test.YtgpikicifpjffaaDoorCards
import Derived.Test.YtgpikicifpjffaaDoorTie
import Derived.ProofKit
import Derived.LaidMore
import Derived.Lay
import Derived.SevenTiedAt
import Derived.Stop.Joined
namespace Go.Proofs.YtgpikicifpjffaaDoor
open Go Go.ChangeShapes Go.WideShapes Go.ChangeAt Go.RowKit Go.Ab
theorem own : ownKnob Tryd.prog.godebug = none := by kernel_rfl
theorem laidOut : laidOutB Tryd.prog = true := by kernel_rfl
theorem len2 {α : Type} {l : List α} (h : l.length = 2) : ∃ a b, l = [a, b] := by match l, h with | [a, b], _ => exact ⟨a, b, rfl⟩
theorem len1 {α : Type} {l : List α} (h : l.length = 1) : ∃ a, l = [a] := by match l, h with | [a], _ => exact ⟨a, rfl⟩
theorem len3 {α : Type} {l : List α} (h : l.length = 3) : ∃ a b c, l = [a, b, c] := by match l, h with | [a, b, c], _ => exact ⟨a, b, c, rfl⟩
theorem len4 {α : Type} {l : List α} (h : l.length = 4) : ∃ a b c d, l = [a, b, c, d] := by match l, h with | [a, b, c, d], _ => exact ⟨a, b, c, d, rfl⟩

namespace L6
set_option maxRecDepth 10000 in
theorem law {H : Type} (ds : List (DataW H)) (ys : List AV) (h : RdAll Tryd.prog 4 Tryd.f6.params.toList ds ys) : ACalls Tryd.prog 6 ys [] (.bool true) [] := by
  rw [Tryd.params6] at h
  obtain ⟨d0, _, y0, _, rfl, rfl, h0, h⟩ := RdAll_cons h
  obtain ⟨d1, _, y1, _, rfl, rfl, h1, h⟩ := RdAll_cons h
  obtain ⟨d2, _, y2, _, rfl, rfl, h2, h⟩ := RdAll_cons h
  obtain ⟨d3, _, y3, _, rfl, rfl, h3, h⟩ := RdAll_cons h
  cases RdAll_nil h
  obtain ⟨t, h0⟩ := RdV_ints (n := 2) Tryd.underlying22 Tryd.underlying3 h0
  cases h0.1
  obtain ⟨u, rfl⟩ := RdV_str (n := 3) Tryd.underlying9 h1
  obtain ⟨s, rfl⟩ := RdV_str (n := 3) Tryd.underlying9 h2
  obtain ⟨l, h3⟩ := RdV_strs (n := 2) Tryd.underlying40 Tryd.underlying9 h3
  cases h3.1
  exact Opens_c t u s l
theorem spec {H : Type} (xs : List (DataW H)) (h : xs.length = Tryd.f6.params.toList.length) : Rows.sessionOpensSpec.fn H xs = { results := [.lit (.bool true)], args := xs } := by
  rw [Tryd.params6] at h
  obtain ⟨a, b, c, d, rfl⟩ := len4 h
  rfl
set_option maxRecDepth 100000 in
theorem lifted (os : Os) (started : os.Started) (H : Type) (enc : TypeId × Value → H) :
    ReturnsInHanded {} Tryd.checked os 6 .any (fun w args => (Rows.sessionOpensSpec.pre enc Tryd.prog Tryd.f6 Rows.sessionOpensRow.domain false w args ∧ laidMetH Tryd.prog Rows.sessionOpensRow.laid w) ∧ sizedMet enc Tryd.prog Tryd.f6 (OpenSpec.ofChange Rows.sessionOpensSpec) false w args)
      (Rows.sessionOpensSpec.post enc Tryd.prog Tryd.f6 false true false false) := by
  refine returnsInHanded_of_change_and (C := Tryd.checked) (X := fun w _ => laidMetH Tryd.prog Rows.sessionOpensRow.laid w) (fun _ _ _ hh h => h.of_heap hh) own started (by kernel_rfl) Tryd.func6
    (ChangeSpec.witness_shaped (enc := enc) (C := Tryd.checked) (os := os) (X := fun w _ => laidMetH Tryd.prog Rows.sessionOpensRow.laid w) false (World.laidAll Tryd.prog os Rows.sessionOpensRow.laid) #[.slice none 0 0, .string ⟨#[]⟩, .string ⟨#[]⟩, .slice none 0 0] 8 (World.laidAll_os _ _ _)
      (World.shaped_of_ZipB (by kernel_rfl) (by kernel_rfl)) (by kernel_rfl) (by kernel_rfl) (by kernel_rfl)
      (by rw [MakeChecks.laidMetH_plain _ _ _ (by kernel_rfl)]; exact laidMet_laidAll _ (by kernel_rfl) (by kernel_rfl))) ?_
  intro W base args ds gs before hval hW _ _ _ _
  exact law_contract 4 (tb := 4) rfl rfl Tryd.underlying4 laidOut (by kernel_rfl) (by kernel_rfl) spec hval hW (law ds)
theorem said : Rows.SessionOpensSaid :=
  OpenClaim.holds_of_wide 6 Tryd.f6 rfl rfl rfl rfl rfl rfl rfl ⟨rfl, rfl, rfl, rfl, rfl⟩ rfl rfl rfl rfl rfl (by kernel_rfl) Tryd.func6 (by kernel_rfl)
    (of_decide_eq_true (by kernel_rfl)) (by unfold Func.isWrapper; first | (rw [if_pos (by decide +kernel)]; kernel_rfl) | (rw [if_neg (by decide +kernel)]; exact ⟨rfl, rfl⟩))
    (fun os started H enc _ => lifted os started H enc)
theorem plain (f : FuncId) (fn : Func) (hf : Tryd.pinned.checked.prog.funcNamed "coldplug/coldpluglaw37.SessionOpens" = some f) (hfn : Tryd.pinned.checked.prog.funcs[f]? = some fn) :
    false = Tryd.pinned.checked.prog.looks [] ∧ ∀ (j : Nat) t, fn.params[j]? = some t → Tryd.pinned.checked.prog.wantsStandIn t = false := by
  obtain rfl : f = 6 := Option.some.inj ((show Tryd.prog.funcNamed "coldplug/coldpluglaw37.SessionOpens" = some 6 by kernel_rfl).symm.trans hf) |>.symm
  obtain rfl : fn = Tryd.f6 := (Option.some.inj (Tryd.func6.symm.trans hfn)).symm
  refine ⟨by kernel_rfl, fun j t ht => ?_⟩
  have hall : (Tryd.f6.params.toList.all fun u => !Tryd.prog.wantsStandIn u) = true := by kernel_rfl
  have hm : t ∈ Tryd.f6.params.toList := by simpa using Array.mem_of_getElem? ht
  exact (show Tryd.prog.wantsStandIn t = false by simpa using List.all_eq_true.1 hall t hm)
theorem card : Rows.SessionOpensCardSaid :=
  Claim7.holds_tied_plain_at .later [] _ _ _ _ said (fun _ h => by cases h) (by kernel_rfl) (fun _ h => by cases h) sessionOpens_row_tie rfl ⟨rfl, rfl⟩ (by kernel_rfl) rfl plain (by kernel_rfl)
end L6
end Go.Proofs.YtgpikicifpjffaaDoor
