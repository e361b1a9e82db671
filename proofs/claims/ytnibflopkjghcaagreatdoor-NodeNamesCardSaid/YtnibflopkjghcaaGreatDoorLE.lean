/- Nodes among the data of a row. -/
import Derived.Test.YtnibflopkjghcaaGreatDoorLB
import Derived.Test.YtnibflopkjghcaaGreatDoorN1
namespace Go.Proofs.YtnibflopkjghcaaGreatDoor
open Go Go.ChangeShapes Go.WideShapes Go.ChangeAt Go.RowKit Go.Ab
theorem RdF_cons {H : Type} {R : TypeId → DataW H → List AV → Prop} {f : Field} {fs : List Field} {ds : List (DataW H)} {xs : List AV} (h : RdF R (f :: fs) ds xs) : ∃ d ds' a b, ds = d :: ds' ∧ xs = a ++ b ∧ R f.type d a ∧ RdF R fs ds' b := by
  match ds, h with
  | d :: ds, ⟨a, b, h1, h2, h3⟩ => exact ⟨d, ds, a, b, rfl, h1, h2, h3⟩
theorem RdF_nil' {H : Type} {R : TypeId → DataW H → List AV → Prop} {ds : List (DataW H)} {xs : List AV} (h : RdF R [] ds xs) : ds = [] ∧ xs = [] := by
  match ds, h with
  | [], h => exact ⟨rfl, h⟩
set_option maxRecDepth 10000 in
theorem rd_nd {H : Type} {n : Nat} {d : DataW H} {r : List AV} (h : Rd Tryz.prog (n + 2) 59 d r) : ∃ p : Nd, r = ndRow p := by
  obtain ⟨ds, _, hf⟩ := Rd_struct Tryz.underlying59 h
  obtain ⟨d0, _, a0, b0, _, f0, g0, hf⟩ := RdF_cons hf
  obtain ⟨d1, _, a1, b1, _, f1, g1, hf⟩ := RdF_cons hf
  obtain ⟨d2, _, a2, b2, _, f2, g2, hf⟩ := RdF_cons hf
  obtain ⟨d3, _, a3, b3, _, f3, g3, hf⟩ := RdF_cons hf
  obtain ⟨d4, _, a4, b4, _, f4, g4, hf⟩ := RdF_cons hf
  obtain ⟨d5, _, a5, b5, _, f5, g5, hf⟩ := RdF_cons hf
  obtain ⟨d6, _, a6, b6, _, f6, g6, hf⟩ := RdF_cons hf
  obtain ⟨_, f7⟩ := RdF_nil' hf
  obtain ⟨s0, _, j0, _⟩ := Rd_str (n := n) Tryz.underlying9 g0
  obtain ⟨s1, _, j1, _⟩ := Rd_int (n := n) Tryz.underlying3 g1
  obtain ⟨s2, _, j2, _⟩ := Rd_int (n := n) Tryz.underlying3 g2
  obtain ⟨s3, _, j3, _⟩ := Rd_str (n := n) Tryz.underlying9 g3
  obtain ⟨s4, _, j4, _⟩ := Rd_str (n := n) Tryz.underlying9 g4
  obtain ⟨s5, _, j5, _⟩ := Rd_int (n := n) Tryz.underlying3 g5
  obtain ⟨s6, _, j6, _⟩ := Rd_str (n := n) Tryz.underlying9 g6
  exact ⟨⟨s0, s1, s2, s3, s4, s5, s6⟩, by rw [f0, j0, f1, j1, f2, j2, f3, j3, f4, j4, f5, j5, f6, j6, f7]; rfl⟩
set_option maxRecDepth 10000 in
/-- A list of nodes among the data. -/
theorem rd_nds {H : Type} {d : DataW H} {y : AV} (h : RdV Tryz.prog 6 33 d y) : ∃ l : List Nd, y = .imm (l.map ndRow) ∧ l.length ≤ maxLen :=
  RdV_slice (f := ndRow) Tryz.underlying33 (fun _ _ h => rd_nd (n := 3) h) h
end Go.Proofs.YtnibflopkjghcaaGreatDoor
