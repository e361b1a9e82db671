/- Records among the data of a row. -/
import Derived.Test.YtpdffpipeeddbaaGreatDoorLB
namespace Go.Proofs.YtpdffpipeeddbaaGreatDoor
open Go Go.ChangeShapes Go.WideShapes Go.ChangeAt Go.RowKit Go.Ab
theorem RdF_cons {H : Type} {R : TypeId → DataW H → List AV → Prop} {f : Field} {fs : List Field} {ds : List (DataW H)} {xs : List AV} (h : RdF R (f :: fs) ds xs) : ∃ d ds' a b, ds = d :: ds' ∧ xs = a ++ b ∧ R f.type d a ∧ RdF R fs ds' b := by
  match ds, h with
  | d :: ds, ⟨a, b, h1, h2, h3⟩ => exact ⟨d, ds, a, b, rfl, h1, h2, h3⟩
theorem RdF_nil {H : Type} {R : TypeId → DataW H → List AV → Prop} {ds : List (DataW H)} {xs : List AV} (h : RdF R [] ds xs) : xs = [] := by
  match ds, h with
  | [], h => exact h
theorem rd_strs {H : Type} {P : Program} {n : Nat} {t e : TypeId} {d : DataW H} {a : List AV} (ht : P.underlying t = some (.slice e)) (he : P.underlying e = some .string) (h : Rd P (n + 2) t d a) : ∃ l : List (List UInt8), a = [.imm (l.map sRow)] ∧ l.length ≤ 9223372036854775807 := by
  rcases Rd_slice ht h with ⟨_, h2⟩ | ⟨ds, sp, rows, _, h2, h3, h4⟩
  · exact ⟨[], by simpa using h2, by simp⟩
  · obtain ⟨l, rfl, hl⟩ := RdL_rows (f := sRow) (fun d r h => by obtain ⟨s, _, h2, _⟩ := Rd_str he h; exact ⟨s, h2⟩) h4
    exact ⟨l, h2, by simp only [maxLen] at h3; omega⟩
theorem rd_attr {H : Type} {P : Program} {n : Nat} {t e : TypeId} {f1 f2 : Field} {d : DataW H} {r : List AV} (ht : P.underlying t = some (.struct #[f1, f2])) (h1 : f1.type = e) (h2 : f2.type = e) (he : P.underlying e = some .string) (h : Rd P (n + 2) t d r) : ∃ p : List UInt8 × List UInt8, r = aRow p := by
  obtain ⟨ds, _, hf⟩ := Rd_struct ht h
  obtain ⟨_, _, a0, b0, _, e0, g0, hf⟩ := RdF_cons hf
  obtain ⟨_, _, a1, b1, _, e1, g1, hf⟩ := RdF_cons hf
  have e2 := RdF_nil hf
  rw [h1] at g0; rw [h2] at g1
  obtain ⟨s0, _, k0, _⟩ := Rd_str (n := n) he g0
  obtain ⟨s1, _, k1, _⟩ := Rd_str (n := n) he g1
  exact ⟨(s0, s1), by rw [e0, k0, e1, k1, e2]; rfl⟩
theorem rd_attrs {H : Type} {P : Program} {n : Nat} {u t e : TypeId} {f1 f2 : Field} {d : DataW H} {a : List AV} (hu : P.underlying u = some (.slice t)) (ht : P.underlying t = some (.struct #[f1, f2])) (h1 : f1.type = e) (h2 : f2.type = e) (he : P.underlying e = some .string) (h : Rd P (n + 3) u d a) :
    ∃ l : List (List UInt8 × List UInt8), a = [.imm (l.map aRow)] ∧ l.length ≤ 9223372036854775807 := by
  rcases Rd_slice hu h with ⟨_, h3⟩ | ⟨ds, sp, rows, _, h3, h4, h5⟩
  · exact ⟨[], by simpa using h3, by simp⟩
  · obtain ⟨l, rfl, hl⟩ := RdL_rows (f := aRow) (fun d r h => rd_attr (n := n) ht h1 h2 he h) h5
    exact ⟨l, h3, by simp only [maxLen] at h4; omega⟩
set_option maxRecDepth 10000 in
theorem rd_rcd {H : Type} {d : DataW H} {y : AV} (h : RdV Tryz.prog 6 26 d y) : ∃ r : Rcd, y = .agg (rRow r) ∧ Fit r := by
  obtain ⟨xs, hy, hr⟩ := RdV_struct Tryz.underlying26 h
  obtain ⟨ds, _, hf⟩ := Rd_struct (n := 5) Tryz.underlying26 hr
  obtain ⟨_, _, a0, b0, _, e0, g0, hf⟩ := RdF_cons hf
  obtain ⟨_, _, a1, b1, _, e1, g1, hf⟩ := RdF_cons hf
  obtain ⟨_, _, a2, b2, _, e2, g2, hf⟩ := RdF_cons hf
  obtain ⟨_, _, a3, b3, _, e3, g3, hf⟩ := RdF_cons hf
  obtain ⟨_, _, a4, b4, _, e4, g4, hf⟩ := RdF_cons hf
  obtain ⟨_, _, a5, b5, _, e5, g5, hf⟩ := RdF_cons hf
  obtain ⟨_, _, a6, b6, _, e6, g6, hf⟩ := RdF_cons hf
  obtain ⟨_, _, a7, b7, _, e7, g7, hf⟩ := RdF_cons hf
  obtain ⟨_, _, a8, b8, _, e8, g8, hf⟩ := RdF_cons hf
  obtain ⟨_, _, a9, b9, _, e9, g9, hf⟩ := RdF_cons hf
  obtain ⟨_, _, a10, b10, _, e10, g10, hf⟩ := RdF_cons hf
  obtain ⟨_, _, a11, b11, _, e11, g11, hf⟩ := RdF_cons hf
  have e12 := RdF_nil hf
  obtain ⟨x0, _, k0, _⟩ := Rd_str (n := 4) Tryz.underlying9 g0
  obtain ⟨x1, _, k1, _⟩ := Rd_int (n := 4) Tryz.underlying3 g1
  obtain ⟨x2, k2, q2⟩ := rd_attrs (n := 2) (e := 9) Tryz.underlying23 Tryz.underlying57 rfl rfl Tryz.underlying9 g2
  obtain ⟨x3, k3, q3⟩ := rd_strs (n := 3) Tryz.underlying24 Tryz.underlying9 g3
  obtain ⟨x4, k4, q4⟩ := rd_strs (n := 3) Tryz.underlying24 Tryz.underlying9 g4
  obtain ⟨x5, k5, q5⟩ := rd_strs (n := 3) Tryz.underlying24 Tryz.underlying9 g5
  obtain ⟨x6, k6, q6⟩ := rd_strs (n := 3) Tryz.underlying24 Tryz.underlying9 g6
  obtain ⟨x7, _, k7, _⟩ := Rd_str (n := 4) Tryz.underlying9 g7
  obtain ⟨x8, _, k8, _⟩ := Rd_int (n := 4) Tryz.underlying3 g8
  obtain ⟨x9, _, k9, _⟩ := Rd_str (n := 4) Tryz.underlying9 g9
  obtain ⟨x10, _, k10, _⟩ := Rd_str (n := 4) Tryz.underlying9 g10
  obtain ⟨x11, _, k11, _⟩ := Rd_int (n := 4) Tryz.underlying3 g11
  exact ⟨⟨x0, x1, x2, x3, x4, x5, x6, x7, x8, x9, x10, x11⟩, by rw [hy, e0, k0, e1, k1, e2, k2, e3, k3, e4, k4, e5, k5, e6, k6, e7, k7, e8, k8, e9, k9, e10, k10, e11, k11, e12]; rfl, ⟨q2, q3, q4, q5, q6⟩⟩
/-- The record of bounded data is small. -/
theorem small_rcd {r : Rcd} (h : (AV.agg (rRow r)).small 1048576) : Few r := by
  simp only [AV.small, rRow, smallL] at h
  obtain ⟨h0, _, h2, h3, h4, h5, h6, _⟩ := h
  have inS : ∀ {l : List (List UInt8)}, smallLL 1048576 (l.map sRow) → ∀ x ∈ l, x.length ≤ 1048576 := fun hl x hx => by
    have := smallLL_mem hl _ (List.mem_map_of_mem hx)
    simp only [sRow, smallL, AV.small] at this
    exact this.1
  have inA : ∀ x ∈ r.props, x.2.length ≤ 1048576 := fun x hx => by
    have := smallLL_mem h2.2 _ (List.mem_map_of_mem hx)
    simp only [aRow, smallL, AV.small] at this
    exact this.2.1
  rw [List.length_map] at h2 h3 h4 h5 h6
  exact ⟨by omega, by omega, by omega, fun x hx => by have := inA x hx; omega, by omega, fun x hx => by have := inS h4.2 x hx; omega, by omega, fun x hx => by have := inS h5.2 x hx; omega, by omega, fun x hx => by have := inS h6.2 x hx; omega⟩
end Go.Proofs.YtpdffpipeeddbaaGreatDoor
