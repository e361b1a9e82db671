/- The table of the laws, grown call by call. -/
import Derived.Test.YtfgannpogjphoaaGreatDoorW3
namespace Go.Ab
open Go Go.Proofs Go.Sort
set_option maxRecDepth 20000
structure RT where
  i : Nat
  k : Nat
  m : SMap Own
  w : List Dv
structure RT.ok (n : Nat) (s : RT) : Prop where
  hi : s.i ≤ n
  hk : s.k ≤ 1 + 20 * s.i
  hT : Tbl puS uS s.i s.m s.w
theorem best_at {w : List Dv} {m : SMap Own} (hT : TL m w) (h : ResOf ltP (opn (nodesW w) (clm w)) (linksW w)) {x : Lk} (hx : x ∈ linksW w) :
    ∃ (ic : Nat) (hi : ic < (clm w).length), (clm w)[ic].link = x.name ∧ (clm w)[ic].path = x.path ∧ (clm w)[ic].node = x.node ∧ (∀ (k : Nat) (hk : k < (clm w).length), (clm w)[k].link = x.name → (clm w)[k].path = x.path → k = ic) ∧
      ∀ (k : Nat) (hk : k < (clm w).length), (clm w)[k].link = x.name → ¬ (clm w)[ic].prio < (clm w)[k].prio ∧ ((clm w)[k].prio = (clm w)[ic].prio → ¬ cmpP (clm w)[k].path x.path < 0) := by
  obtain ⟨c, ⟨hc, hb⟩, rfl, _⟩ := (h.mem x).1 hx
  have hv := (List.mem_filter.1 hc).2
  obtain ⟨ic, hi, rfl⟩ := List.mem_iff_getElem.1 (List.mem_filter.1 hc).1
  have hok := clm_ok pord hT.toTabW
  refine ⟨ic, hi, rfl, rfl, rfl, fun k hk h1 h2 => ?_, fun k hk h1 => ?_⟩
  · have hp := List.pairwise_iff_getElem.1 hok.2
    rcases Nat.lt_trichotomy k ic with h3 | h3 | h3
    · exact absurd ⟨h1, h2⟩ (hp k ic hk hi h3)
    · exact h3
    · exact absurd ⟨h1.symm, h2.symm⟩ (hp ic k hi hk h3)
  · have h1 : (clm w)[k].link = (clm w)[ic].link := h1
    have hO : (clm w)[k] ∈ opn (nodesW w) (clm w) := List.mem_filter.2 ⟨List.getElem_mem hk, by
      have e : voidB (nodesW w) (clm w)[k] = voidB (nodesW w) (clm w)[ic] := by unfold voidB; rw [h1]
      rw [e]; exact hv⟩
    have h4 := hb _ hO h1
    simp only [betB, Bool.or_eq_false_iff, Bool.and_eq_false_imp, decide_eq_false_iff_not, decide_eq_true_eq, ltP] at h4
    exact ⟨h4.1, h4.2⟩
end Go.Ab
