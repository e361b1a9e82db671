/- SessionChecks: for every list of numbers, all sessions and every number the law returns true and leaves its arguments as they were. No condition but the row's own: three tables of Go's library read as the program's text lays them (tied). -/
import Derived.Test.YtgpikicifpjffaaDoorLB
import Derived.Test.YtgpikicifpjffaaDoorW5
namespace Go.Proofs.YtgpikicifpjffaaDoor
open Go Go.ChangeShapes Go.WideShapes Go.ChangeAt Go.RowKit Go.Ab
namespace L5
theorem RdF_cons {H : Type} {R : TypeId → DataW H → List AV → Prop} {f : Field} {fs : List Field} {ds : List (DataW H)} {xs : List AV} (h : RdF R (f :: fs) ds xs) : ∃ d ds' a b, xs = a ++ b ∧ R f.type d a ∧ RdF R fs ds' b := by
  match ds, h with
  | d :: ds, ⟨a, b, h1, h2, h3⟩ => exact ⟨d, ds, a, b, h1, h2, h3⟩
theorem RdF_nil {H : Type} {R : TypeId → DataW H → List AV → Prop} {ds : List (DataW H)} {xs : List AV} (h : RdF R [] ds xs) : xs = [] := by
  match ds, h with
  | [], h => exact h
set_option maxRecDepth 10000 in
theorem rd_ses {H : Type} {n : Nat} (d : DataW H) (r : List AV) (h : Rd Tryd.prog (n + 2) 33 d r) : ∃ a : Ses, r = sesR a := by
  obtain ⟨ds, _, hf⟩ := Rd_struct Tryd.underlying33 h
  obtain ⟨_, _, a0, b0, e0, g0, hf⟩ := RdF_cons hf
  obtain ⟨_, _, a1, b1, e1, g1, hf⟩ := RdF_cons hf
  obtain ⟨_, _, a2, b2, e2, g2, hf⟩ := RdF_cons hf
  obtain ⟨_, _, a3, b3, e3, g3, hf⟩ := RdF_cons hf
  have e4 := RdF_nil hf
  obtain ⟨x0, _, k0, _⟩ := Rd_int (n := n) Tryd.underlying3 g0
  obtain ⟨x1, _, k1, _⟩ := Rd_str (n := n) Tryd.underlying9 g1
  obtain ⟨x2, _, k2, _⟩ := Rd_str (n := n) Tryd.underlying9 g2
  obtain ⟨x3, _, k3⟩ := Rd_bool (n := n) Tryd.underlying4 g3
  exact ⟨⟨x0, x1, x2, x3⟩, by rw [e0, k0, e1, k1, e2, k2, e3, k3, e4]; rfl⟩
set_option maxRecDepth 10000 in
theorem rd_sessions {H : Type} {d : DataW H} {y : AV} (h : RdV Tryd.prog 4 28 d y) : ∃ (n : Int) (l : List Ses), y = ssV n l ∧ l.length ≤ maxLen := by
  obtain ⟨xs, hy, hr⟩ := RdV_struct Tryd.underlying28 h
  obtain ⟨ds, _, hf⟩ := Rd_struct (n := 3) Tryd.underlying28 hr
  obtain ⟨_, _, a0, b0, e0, g0, hf⟩ := RdF_cons hf
  obtain ⟨_, _, a1, b1, e1, g1, hf⟩ := RdF_cons hf
  have e4 := RdF_nil hf
  obtain ⟨x0, _, k0, _⟩ := Rd_int (n := 2) Tryd.underlying3 g0
  rcases Rd_slice (n := 2) Tryd.underlying26 g1 with ⟨_, k1⟩ | ⟨es, sp, rows, _, k1, h3, h4⟩
  · exact ⟨x0, [], by rw [hy, e0, k0, e1, k1, e4]; rfl, Nat.zero_le _⟩
  · obtain ⟨l, hr, hl⟩ := RdL_rows (f := sesR) (fun d r h => rd_ses (n := 0) d r h) h4
    exact ⟨x0, l, by rw [hy, e0, k0, e1, k1, e4, hr]; rfl, by rw [hl]; exact h3⟩
set_option maxRecDepth 10000 in
theorem law {H : Type} (ds : List (DataW H)) (ys : List AV) (h : RdAll Tryd.prog 4 Tryd.f5.params.toList ds ys) : ACalls Tryd.prog 5 ys [] (.bool true) [] := by
  rw [Tryd.params5] at h
  obtain ⟨d0, _, y0, _, rfl, rfl, h0, h⟩ := RdAll_cons h
  obtain ⟨d1, _, y1, _, rfl, rfl, h1, h⟩ := RdAll_cons h
  obtain ⟨d2, _, y2, _, rfl, rfl, h2, h⟩ := RdAll_cons h
  cases RdAll_nil h
  obtain ⟨t, h0⟩ := RdV_ints (n := 2) Tryd.underlying22 Tryd.underlying3 h0
  cases h0.1
  obtain ⟨nr, lr, h1⟩ := rd_sessions h1
  cases h1.1
  obtain ⟨i, h2⟩ := RdV_int (n := 3) Tryd.underlying3 h2
  cases h2.1
  exact Checks_c t nr lr i h1.2
theorem spec {H : Type} (xs : List (DataW H)) (h : xs.length = Tryd.f5.params.toList.length) : Rows.sessionChecksSpec.fn H xs = { results := [.lit (.bool true)], args := xs } := by
  rw [Tryd.params5] at h
  obtain ⟨a, b, c, rfl⟩ := len3 h
  rfl
set_option maxRecDepth 100000 in
theorem lifted (os : Os) (started : os.Started) (H : Type) (enc : TypeId × Value → H) :
    ReturnsInHanded {} Tryd.checked os 5 .any (fun w args => (Rows.sessionChecksSpec.pre enc Tryd.prog Tryd.f5 Rows.sessionChecksRow.domain false w args ∧ laidMetH Tryd.prog Rows.sessionChecksRow.laid w) ∧ sizedMet enc Tryd.prog Tryd.f5 (OpenSpec.ofChange Rows.sessionChecksSpec) false w args)
      (Rows.sessionChecksSpec.post enc Tryd.prog Tryd.f5 false true false false) := by
  refine returnsInHanded_of_change_and (C := Tryd.checked) (X := fun w _ => laidMetH Tryd.prog Rows.sessionChecksRow.laid w) (fun _ _ _ hh h => h.of_heap hh) own started (by kernel_rfl) Tryd.func5
    (ChangeSpec.witness_shaped (enc := enc) (C := Tryd.checked) (os := os) (X := fun w _ => laidMetH Tryd.prog Rows.sessionChecksRow.laid w) false (World.laidAll Tryd.prog os Rows.sessionChecksRow.laid) #[.slice none 0 0, .agg #[.int .i64 0, .slice none 0 0], .int .i64 0] 8 (World.laidAll_os _ _ _)
      (World.shaped_of_ZipB (by kernel_rfl) (by kernel_rfl)) (by kernel_rfl) (by kernel_rfl) (by kernel_rfl)
      (by rw [MakeChecks.laidMetH_plain _ _ _ (by kernel_rfl)]; exact laidMet_laidAll _ (by kernel_rfl) (by kernel_rfl))) ?_
  intro W base args ds gs before hval hW _ _ _ _
  exact law_contract 4 (tb := 4) rfl rfl Tryd.underlying4 laidOut (by kernel_rfl) (by kernel_rfl) spec hval hW (law ds)
theorem said : Rows.SessionChecksSaid :=
  OpenClaim.holds_of_wide 5 Tryd.f5 rfl rfl rfl rfl rfl rfl rfl ⟨rfl, rfl, rfl, rfl, rfl⟩ rfl rfl rfl rfl rfl (by kernel_rfl) Tryd.func5 (by kernel_rfl)
    (of_decide_eq_true (by kernel_rfl)) (by unfold Func.isWrapper; first | (rw [if_pos (by decide +kernel)]; kernel_rfl) | (rw [if_neg (by decide +kernel)]; exact ⟨rfl, rfl⟩))
    (fun os started H enc _ => lifted os started H enc)
theorem plain (f : FuncId) (fn : Func) (hf : Tryd.pinned.checked.prog.funcNamed "coldplug/coldpluglaw37.SessionChecks" = some f) (hfn : Tryd.pinned.checked.prog.funcs[f]? = some fn) :
    false = Tryd.pinned.checked.prog.looks [] ∧ ∀ (j : Nat) t, fn.params[j]? = some t → Tryd.pinned.checked.prog.wantsStandIn t = false := by
  obtain rfl : f = 5 := Option.some.inj ((show Tryd.prog.funcNamed "coldplug/coldpluglaw37.SessionChecks" = some 5 by kernel_rfl).symm.trans hf) |>.symm
  obtain rfl : fn = Tryd.f5 := (Option.some.inj (Tryd.func5.symm.trans hfn)).symm
  refine ⟨by kernel_rfl, fun j t ht => ?_⟩
  have hall : (Tryd.f5.params.toList.all fun u => !Tryd.prog.wantsStandIn u) = true := by kernel_rfl
  have hm : t ∈ Tryd.f5.params.toList := by simpa using Array.mem_of_getElem? ht
  exact (show Tryd.prog.wantsStandIn t = false by simpa using List.all_eq_true.1 hall t hm)
theorem card : Rows.SessionChecksCardSaid :=
  Claim7.holds_tied_plain_at .later [] _ _ _ _ said (fun _ h => by cases h) (by kernel_rfl) (fun _ h => by cases h) sessionChecks_row_tie rfl ⟨rfl, rfl⟩ (by kernel_rfl) rfl plain (by kernel_rfl)
end L5
end Go.Proofs.YtgpikicifpjffaaDoor
