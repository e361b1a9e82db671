/- What the bound of the rows with 'Upto' says of their data. -/
import Derived.Test.YtpdffpipeeddbaaGreatDoorLR
namespace Go.Proofs.YtpdffpipeeddbaaGreatDoor
open Go Go.ChangeShapes Go.WideShapes Go.ChangeAt Go.RowKit Go.Ab
theorem bulk_pos {H : Type} (d : DataW H) : 1 ≤ Rows.uptoBulk d := by
  cases d with
  | lit l => cases l <;> simp [Rows.uptoBulk]
  | _ => simp [Rows.uptoBulk]
theorem bulk_len {H : Type} : ∀ l : List (DataW H), l.length ≤ Rows.uptoBulkAll l
  | [] => by simp [Rows.uptoBulkAll]
  | d :: r => by
    have := bulk_len r
    have := bulk_pos d
    simp only [Rows.uptoBulkAll, List.length_cons]; omega
theorem bulk {H : Type} : Bulk (H := H) Rows.uptoBulk Rows.uptoBulkAll where
  str s := by simp only [Rows.uptoBulk]; omega
  slice e s := by have := bulk_len e; simp only [Rows.uptoBulk]; omega
  agg ds := by simp only [Rows.uptoBulk]; omega
  cons d r := by simp only [Rows.uptoBulkAll]
end Go.Proofs.YtpdffpipeeddbaaGreatDoor
