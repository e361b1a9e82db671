/- DatabaseReads, the lifted row: for every list of numbers the law returns true and leaves its argument as it was. No condition but the row's own: tables and variables of Go's library read as the program's text lays them (tied). -/
import Derived.Test.YtpknaffdaemlbaaGreatDoorLB
import Derived.Test.YtpknaffdaemlbaaGreatDoorK6
namespace Go.Proofs.YtpknaffdaemlbaaGreatDoor
open Go Go.ChangeShapes Go.WideShapes Go.ChangeAt Go.RowKit Go.Ab
namespace L6
set_option maxRecDepth 10000 in
theorem law {H : Type} (ds : List (DataW H)) (ys : List AV) (h : RdAll Tryz.prog 6 Tryz.f6.params.toList ds ys) : ACalls Tryz.prog 6 ys [] (.bool true) [] := by
  rw [Tryz.params6] at h
  obtain ⟨d0, _, y0, _, rfl, rfl, h0, h⟩ := RdAll_cons h
  cases RdAll_nil h
  obtain ⟨t, h0⟩ := RdV_ints (n := 4) Tryz.underlying22 Tryz.underlying3 h0
  cases h0.1
  exact DatabaseReads_c t
theorem spec {H : Type} (xs : List (DataW H)) (h : xs.length = Tryz.f6.params.toList.length) : Rows.databaseReadsSpec.fn H xs = { results := [.lit (.bool true)], args := xs } := by
  rw [Tryz.params6] at h
  obtain ⟨a, rfl⟩ := len1 h
  rfl
theorem met (os : Os) (args : Array Value) : laidMetH Tryz.prog Rows.databaseReadsRow.laid ((World.laidAll Tryz.prog os Rows.databaseReadsRow.laid).forCall (fun _ _ => 0) ⟨#[], args, []⟩).memory := by
  rw [MakeChecks.laidMetH_plain _ _ _ (by kernel_rfl)]; exact laidMet_laidAll _ (by kernel_rfl) (by kernel_rfl)
set_option maxRecDepth 100000 in
theorem reads (os : Os) {H : Type} (enc : TypeId × Value → H) : ∃ places, DataW.whole enc Tryz.prog ((World.laidAll Tryz.prog os Rows.databaseReadsRow.laid).forCall (fun _ _ => 0) ⟨#[], #[.slice none 0 0], []⟩).memory Tryz.f6.params.toList Rows.databaseReadsSpec.vars false #[.slice none 0 0].toList 8 = some ([.nil], [], places) :=
  ⟨[], by kernel_rfl⟩
set_option maxRecDepth 100000 in
theorem lifted (os : Os) (started : os.Started) (H : Type) (enc : TypeId × Value → H) (F : Stop.Interp) :
    ReturnsInHanded {} Tryz.checked os 6 .any ((OpenSpec.ofChange Rows.databaseReadsSpec).preRow enc Tryz.prog Tryz.f6 Rows.databaseReadsRow.domain false Rows.databaseReadsRow.laid) (((OpenSpec.ofChange Rows.databaseReadsSpec).at F).post enc Tryz.prog Tryz.f6 false true false false) := by
  obtain ⟨places, hx⟩ := reads os enc
  refine returnsInHanded_of_row (C := Tryz.checked) (s := (OpenSpec.ofChange Rows.databaseReadsSpec)) own started (by kernel_rfl) Tryz.func6
    (witness_row (enc := enc) (C := Tryz.checked) (World.laidAll Tryz.prog os Rows.databaseReadsRow.laid) #[.slice none 0 0] (World.laidAll_os _ _ _) (World.shaped_of_ZipB (by kernel_rfl) (by kernel_rfl)) (by kernel_rfl)
      (OpenSpec.preRow_of_cond 8 hx (by kernel_rfl) (fun k hk => by cases hk) (by kernel_rfl) (met os _))) ?_
  intro W base args ds gs before hval hW _ hcond hsz hL hshape _
  exact law_contract 6 (tb := 4) rfl rfl Tryz.underlying4 laidOut (by kernel_rfl) (by kernel_rfl) spec hval hW (gok hL (by kernel_rfl) hshape (by simp [Rows.databaseReadsRow, show Lib.tabData .u64 Lib.pow10Tab = (Rows.laid_internal_strconv_uint64pow10 : DataW Unit) from rfl]) (by simp [Rows.databaseReadsRow]) (by simp [Rows.databaseReadsRow]) (by simp [Rows.databaseReadsRow, show Lib.tabData .u8 bruijn = (Rows.laid_math_bits_deBruijn64tab : DataW Unit) from rfl])) (heap9 hshape) (fun ys => law ds ys)
end L6
end Go.Proofs.YtpknaffdaemlbaaGreatDoor
