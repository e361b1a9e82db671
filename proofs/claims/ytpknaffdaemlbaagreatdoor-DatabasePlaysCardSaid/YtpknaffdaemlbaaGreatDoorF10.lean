/- DatabasePlays, the lifted row: for every list of numbers, every list of entries and all two texts the law returns true and leaves its arguments as they were. No condition but the row's own: tables and variables of Go's library read as the program's text lays them (tied). -/
import Derived.Test.YtpknaffdaemlbaaGreatDoorLE
import Derived.Test.YtpknaffdaemlbaaGreatDoorKP
namespace Go.Proofs.YtpknaffdaemlbaaGreatDoor
open Go Go.ChangeShapes Go.WideShapes Go.ChangeAt Go.RowKit Go.Ab
namespace L10
set_option maxRecDepth 10000 in
theorem law {H : Type} (ds : List (DataW H)) (ys : List AV) (hz : (DataW.weightsEach Tryz.prog Tryz.f10.params.toList ds).all (· ≤ reachBytes) = true) (h : QJG Tryz.prog 6 Tryz.f10.params.toList ds ys) : ACalls Tryz.prog 10 ys [] (.bool true) [] := by
  rw [Tryz.params10] at h hz
  obtain ⟨d0, _, y0, _, rfl, rfl, h0, h⟩ := QDm h
  obtain ⟨d1, _, y1, _, rfl, rfl, h1, h⟩ := QDm h
  obtain ⟨d2, _, y2, _, rfl, rfl, h2, h⟩ := QDm h
  obtain ⟨d3, _, y3, _, rfl, rfl, h3, h⟩ := QDm h
  cases QKZ h
  obtain ⟨t, h0⟩ := QMJ (n := 4) Tryz.underlying22 Tryz.underlying3 h0
  cases h0.1
  obtain ⟨raw, h1, hl1, hb1⟩ := QTN h1 (i := 1) rfl rfl hz
  cases h1
  obtain ⟨p, h2, hb2, hd2⟩ := QMR (n := 5) Tryz.underlying9 h2
  cases h2
  obtain ⟨e, h3, hb3, hd3⟩ := QMR (n := 5) Tryz.underlying9 h3
  cases h3
  exact QH2 t raw p e hl1 hb1 (by have := QHi (i := 2) (t := 9) (by rw [hd2]; rfl) rfl hz; unfold reachBytes at this; omega) (by have := QHi (i := 3) (t := 9) (by rw [hd3]; rfl) rfl hz; unfold reachBytes at this; omega)
theorem spec {H : Type} (xs : List (DataW H)) (h : xs.length = Tryz.f10.params.toList.length) : Rows.databasePlaysSpec.fn H xs = { results := [.lit (.bool true)], args := xs } := by
  rw [Tryz.params10] at h
  obtain ⟨a, b, c, d, rfl⟩ := len4 h
  rfl
theorem met (os : Os) (args : Array Value) : laidMetH Tryz.prog Rows.databasePlaysRow.laid ((World.laidAll Tryz.prog os Rows.databasePlaysRow.laid).forCall (fun _ _ => 0) ⟨#[], args, []⟩).memory := by
  rw [MakeChecks.laidMetH_plain _ _ _ (by kernel_rfl)]; exact laidMet_laidAll _ (by kernel_rfl) (by kernel_rfl)
set_option maxRecDepth 100000 in
theorem QOE (os : Os) {H : Type} (enc : TypeId × Value → H) : ∃ places, DataW.whole enc Tryz.prog ((World.laidAll Tryz.prog os Rows.databasePlaysRow.laid).forCall (fun _ _ => 0) ⟨#[], #[.slice none 0 0, .slice none 0 0, .string ⟨#[]⟩, .string ⟨#[]⟩], []⟩).memory Tryz.f10.params.toList Rows.databasePlaysSpec.vars false #[.slice none 0 0, .slice none 0 0, .string ⟨#[]⟩, .string ⟨#[]⟩].toList 8 = some ([.nil, .nil, .lit (.string []), .lit (.string [])], [], places) :=
  ⟨[], by kernel_rfl⟩
set_option maxRecDepth 100000 in
theorem lifted (os : Os) (started : os.Started) (H : Type) (enc : TypeId × Value → H) (F : Stop.Interp) :
    ReturnsInHanded {} Tryz.checked os 10 .any ((OpenSpec.ofChange Rows.databasePlaysSpec).preRow enc Tryz.prog Tryz.f10 Rows.databasePlaysRow.domain false Rows.databasePlaysRow.laid) (((OpenSpec.ofChange Rows.databasePlaysSpec).at F).post enc Tryz.prog Tryz.f10 false true false false) := by
  obtain ⟨places, hx⟩ := QOE os enc
  refine returnsInHanded_of_row (C := Tryz.checked) (s := (OpenSpec.ofChange Rows.databasePlaysSpec)) own started (by kernel_rfl) Tryz.func10
    (QHq (enc := enc) (C := Tryz.checked) (World.laidAll Tryz.prog os Rows.databasePlaysRow.laid) #[.slice none 0 0, .slice none 0 0, .string ⟨#[]⟩, .string ⟨#[]⟩] (World.laidAll_os _ _ _) (World.shaped_of_ZipB (by kernel_rfl) (by kernel_rfl)) (by kernel_rfl)
      (OpenSpec.preRow_of_cond 8 hx (by kernel_rfl) (fun k hk => by cases hk) (by kernel_rfl) (met os _))) ?_
  intro W base args ds gs before hval hW _ hcond hsz hL hshape _
  have hgs : gs = [] := by
    obtain ⟨p, q, _, hV, _⟩ := hW
    cases gs with
    | nil => rfl
    | cons g r => exact hV.elim
  subst hgs
  have hz : (DataW.weightsEach Tryz.prog Tryz.f10.params.toList ds).all (· ≤ reachBytes) = true := by
    have := hsz
    rw [List.append_nil] at this
    exact this
  exact QGf 6 (tb := 4) rfl rfl Tryz.underlying4 QOl (by kernel_rfl) (by kernel_rfl) spec hval hW (gok hL (by kernel_rfl) hshape (by simp [Rows.databasePlaysRow, show Lib.tabData .u64 Lib.pow10Tab = (Rows.laid_internal_strconv_uint64pow10 : DataW Unit) from rfl]) (by simp [Rows.databasePlaysRow]) (by simp [Rows.databasePlaysRow]) (by simp [Rows.databasePlaysRow, show Lib.tabData .u8 QOn = (Rows.laid_math_bits_deBruijn64tab : DataW Unit) from rfl])) (QVw hshape) (fun ys => law ds ys hz)
end L10
end Go.Proofs.YtpknaffdaemlbaaGreatDoor
