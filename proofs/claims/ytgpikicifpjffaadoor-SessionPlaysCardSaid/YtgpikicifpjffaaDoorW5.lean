/- A layer of abstract values over the model, and what is proved with it: part W5. -/
import Derived.Test.YtgpikicifpjffaaDoorW4
namespace Go.Ab
open Go Go.Proofs
set_option maxRecDepth 20000 in
theorem few_c2 (n : Int) (l : List Ses) (hl : l.length ≤ 9223372036854775807) : ∃ b : Bool, (b = true → l.length ≤ 60) ∧ ACalls Tryd.prog 17 [ssV n l] [] (.bool b) [] := by
  have := acalls_E (xs := [ssV n l]) (H := []) (fewR l) 0 c17_ok (by
    unfold c17 ssV sesL
    simp +decide -dsimp -implicitDefEqProofs [go_sem]
    refine loop_of (S := Nat × Int) (fun s => ⟨tmps 37 [(1, .ptr 0 0), (3, .int .i64 s.2), (4, .int .i64 s.1)], [.box [.int .i64 n, .imm (l.map sesR)]]⟩) (fun s => l.length - s.1) (fun s => s.1 ≤ l.length) (0, 0) (by simp) (cut_of (by simp) ?_) ?_
    · simp +decide -dsimp -implicitDefEqProofs [go_sem]
    rintro ⟨i, z⟩ hi
    simp only at hi
    by_cases h : i < l.length
    · have w : IntKind.i64.wrap ((i : Int) + 1) = i + 1 := w64 (by omega) (by omega)
      simp +decide -dsimp -implicitDefEqProofs [go_sem, h, sesR, w]
      refine next_of (i + 1, IntKind.i64.wrap (z + IntKind.i64.wrap ((l[i].user.length : Int) + l[i].seat.length))) (by simp only; omega) (by simp only; omega) (cut_of (by simp) ?_)
      simp +decide -dsimp -implicitDefEqProofs [go_sem]
    · by_cases h1 : z ≤ 4000
      · by_cases h2 : (l.length : Int) ≤ 60
        · simp +decide -dsimp -implicitDefEqProofs [go_sem, h, h1, h2]
          refine end_of (.bool true) [] ⟨rfl, true, fun _ => by omega, rfl⟩ rfl ?_
          simp +decide -dsimp -implicitDefEqProofs [go_sem]
        · simp +decide -dsimp -implicitDefEqProofs [go_sem, h, h1, h2]
          refine end_of (.bool false) [] ⟨rfl, false, by simp, rfl⟩ rfl ?_
          simp +decide -dsimp -implicitDefEqProofs [go_sem]
      · simp +decide -dsimp -implicitDefEqProofs [go_sem, h, h1]
        refine end_of (.bool false) [] ⟨rfl, false, by simp, rfl⟩ rfl ?_
        simp +decide -dsimp -implicitDefEqProofs [go_sem])
  obtain ⟨av, H', ⟨rfl, b, hb, rfl⟩, hc⟩ := this
  exact ⟨b, hb, hc⟩

theorem cvTA_ss {H2 : List AObj} {o m : Nat} {n : Int} {l : List Ses} (h : H2[o]? = some (.reg 33 4 (l.map sesR))) (hm : m = l.length) : cvTA H2 0 [.agg [.int .i64 n, .own o m]] [ssV n l] := by
  simp +decide [go_sem, ssV, sesL, h, hm]
theorem sesV_set {l : List Ses} {i : Nat} {x : Ses} : (l.map sesR).set i (sesR x) = (l.set i x).map sesR := by rw [List.map_set]
def chkSeats : List (List UInt8) := [seat0, seat1, [], [97, 32, 98]]
def chkUsers : List (List UInt8) := [[], [120], [97, 32, 98]]

set_option maxHeartbeats 4000000 in
set_option maxRecDepth 20000 in
theorem Checks_c (t : List Int) (nr : Int) (lr : List Ses) (at_ : Int) (hlr : lr.length ≤ 9223372036854775807) : ACalls Tryd.prog 5 [tapeA t, ssV nr lr, .int .i64 at_] [] (.bool true) [] := by
  refine acalls_F c5_ok rfl ?_
  unfold c5 tapeA
  have kn : ∀ (H : List AObj) (K : List AObj → AV → Prop) (u : TagOf K), K H (.bool true) → callE Tryd.prog 15 [] H K u := fun H K u hK => callE_pure known_c rfl rfl hK
  have knD : ∀ (H : List AObj) (K : SK) (u : TagOf K), K [] [] (.bool true) → callDE Tryd.prog 15 [] H K u := fun H K u hK => callDE_pure known_c rfl rfl hK
  obtain ⟨bf, hbf, hfew⟩ := few_c2 nr lr hlr
  simp only [ssV, sesL] at hfew
  unfold ssV
  simp +decide -dsimp -implicitDefEqProofs [go_sem]
  refine callE_pure hfew (by simp [go_sem]) rfl ?_
  cases bf with
  | false =>
    simp +decide -dsimp -implicitDefEqProofs [go_sem]
    refine kn _ _ _ ?_
    simp +decide -dsimp -implicitDefEqProofs [go_sem]
  | true =>
    have hlr2 := hbf rfl
    simp +decide -dsimp -implicitDefEqProofs [go_sem]
    obtain ⟨av, H', ⟨n, l, k, hm, hl, hn, hk, rfl, rfl⟩, hS⟩ := Sessions_c t 0 (by omega)
    refine callE_frame [1] hS rfl rfl (by simp) (by simp [go_sem]) (by simp [go_sem, tapeO]) ?_
    have hm1 := hm.n1
    have m0 : l.length ≤ maxLen := by simp only [maxLen]; omega
    have m3 : l.length * 48 ≤ 140737488355328 := by omega
    simp +decide -dsimp -implicitDefEqProofs [go_sem, ssV, m0, m3]
    by_cases h0 : l = []
    · subst h0
      simp +decide -dsimp -implicitDefEqProofs [go_sem]
      have hl0 : ([] : List Ses).length = 0 := rfl
      have d1 := Check_c n [] (by omega)
      rw [hm.check (by omega) hl] at d1
      have d2 := Check_c n ([] : List Ses) (by omega)
      have d3 := rCheck_c n ([] : List Ses) (by omega)
      generalize checkB n ([] : List Ses) = cb at d2 d3
      have d4 := Check_c nr lr (by omega)
      have d5 := rCheck_c nr lr (by omega)
      generalize checkB nr lr = cr at d4 d5
      simp only [ssV, sesL] at d1 d4 d5
      refine callDE_pure d1 (by simp [go_sem]) rfl ?_
      simp +decide -dsimp -implicitDefEqProofs [go_sem]
      refine callDE_borrow [(3, .reg 33 4 (([] : List Ses).map sesR))] d2 (by simp) (fun H2 h2 => cvTA_ss (h2 (3, .reg 33 4 (([] : List Ses).map sesR)) (by simp)) rfl) rfl ?_
      simp +decide -dsimp -implicitDefEqProofs [go_sem]
      refine callDE_borrow [(3, .reg 33 4 (([] : List Ses).map sesR))] d3 (by simp) (fun H2 h2 => cvTA_ss (h2 (3, .reg 33 4 (([] : List Ses).map sesR)) (by simp)) rfl) rfl ?_
      simp +decide -dsimp -implicitDefEqProofs [go_sem]
      refine callDE_pure d4 (by simp [go_sem]) rfl ?_
      simp +decide -dsimp -implicitDefEqProofs [go_sem]
      refine callDE_pure d5 (by simp [go_sem]) rfl ?_
      simp +decide -dsimp -implicitDefEqProofs [go_sem]
      refine knD _ _ _ ?_
      simp +decide -dsimp -implicitDefEqProofs [go_sem]
    · have hpos : 0 < l.length := List.length_pos_iff.2 h0
      have hpos' : (l.length : Int) > 0 := by omega
      simp +decide -dsimp -implicitDefEqProofs [go_sem, hpos]
      have bi := fold_bd at_ l.length (by omega)
      refine callDE_pure (Fold_c at_ l.length (by omega)) rfl rfl ?_
      obtain ⟨i, hi, hil⟩ : ∃ i : Nat, fold at_ l.length = i ∧ i < l.length := ⟨(fold at_ l.length).toNat, by omega, by omega⟩
      rw [hi]
      simp +decide -dsimp -implicitDefEqProofs [go_sem, hil]
      refine callE_frame [1] (Next_c t k 6 (by omega) (by omega)) rfl rfl (by simp) (by simp [go_sem]) (by simp [tapeO_ren]) ?_
      generalize fold (tapeV t k) 6 = v
      have setE : ∀ (x : Ses), (l.map sesR).set i [.int .i64 x.id, .str x.user, .str x.seat, .bool x.act] = (l.set i x).map sesR := fun x => by rw [List.map_set]; rfl
      by_cases c0 : v = 0
      · simp +decide -dsimp -implicitDefEqProofs [go_sem, c0, hil, sesR]
        obtain ⟨L, hL⟩ : ∃ L, L = l.set i ⟨l[i].id, l[i].user, l[i].seat, !l[i].act⟩ := ⟨_, rfl⟩
        have hLl : L.length = l.length := by rw [hL]; simp
        have E := setE ⟨l[i].id, l[i].user, l[i].seat, !l[i].act⟩
        rw [← hL] at E
        simp only at E
        simp +decide -dsimp -implicitDefEqProofs [go_sem, E]
        have d1 := Check_c n l (by omega)
        rw [hm.check (by omega) hl] at d1
        have d2 := Check_c n L (by omega)
        have d3 := rCheck_c n L (by omega)
        generalize checkB n L = cb at d2 d3
        have d4 := Check_c nr lr (by omega)
        have d5 := rCheck_c nr lr (by omega)
        generalize checkB nr lr = cr at d4 d5
        simp only [ssV, sesL] at d1 d4 d5
        refine callDE_pure d1 (by simp [go_sem]) rfl ?_
        simp +decide -dsimp -implicitDefEqProofs [go_sem, E]
        refine callDE_borrow [(3, .reg 33 4 (L.map sesR))] d2 (by simp) (fun H2 h2 => cvTA_ss (h2 (3, .reg 33 4 (L.map sesR)) (by simp)) hLl.symm) rfl ?_
        simp +decide -dsimp -implicitDefEqProofs [go_sem]
        refine callDE_borrow [(3, .reg 33 4 (L.map sesR))] d3 (by simp) (fun H2 h2 => cvTA_ss (h2 (3, .reg 33 4 (L.map sesR)) (by simp)) hLl.symm) rfl ?_
        simp +decide -dsimp -implicitDefEqProofs [go_sem]
        refine callDE_pure d4 (by simp [go_sem]) rfl ?_
        simp +decide -dsimp -implicitDefEqProofs [go_sem]
        refine callDE_pure d5 (by simp [go_sem]) rfl ?_
        simp +decide -dsimp -implicitDefEqProofs [go_sem]
        refine knD _ _ _ ?_
        simp +decide -dsimp -implicitDefEqProofs [go_sem]
      by_cases c1 : v = 1
      · simp +decide -dsimp -implicitDefEqProofs [go_sem, c1, hil, sesR]
        refine callDE_frame [1] (Next_c t (k + 1) 5 (by omega) (by omega)) rfl rfl (by simp) (by simp [go_sem]) (by simp [tapeO_ren]) ?_
        generalize fold (tapeV t (k + 1)) 5 = z
        simp +decide -dsimp -implicitDefEqProofs [go_sem]
        generalize IntKind.i64.wrap (l[i].id + IntKind.i64.wrap (z - 2)) = z2
        obtain ⟨L, hL⟩ : ∃ L, L = l.set i ⟨z2, l[i].user, l[i].seat, l[i].act⟩ := ⟨_, rfl⟩
        have hLl : L.length = l.length := by rw [hL]; simp
        have E := setE ⟨z2, l[i].user, l[i].seat, l[i].act⟩
        rw [← hL] at E
        simp only at E
        simp +decide -dsimp -implicitDefEqProofs [go_sem, hil, sesR, E]
        have d1 := Check_c n l (by omega)
        rw [hm.check (by omega) hl] at d1
        have d2 := Check_c n L (by omega)
        have d3 := rCheck_c n L (by omega)
        generalize checkB n L = cb at d2 d3
        have d4 := Check_c nr lr (by omega)
        have d5 := rCheck_c nr lr (by omega)
        generalize checkB nr lr = cr at d4 d5
        simp only [ssV, sesL] at d1 d4 d5
        refine callDE_pure d1 (by simp [go_sem]) rfl ?_
        simp +decide -dsimp -implicitDefEqProofs [go_sem, E]
        refine callDE_borrow [(3, .reg 33 4 (L.map sesR))] d2 (by simp) (fun H2 h2 => cvTA_ss (h2 (3, .reg 33 4 (L.map sesR)) (by simp)) hLl.symm) rfl ?_
        simp +decide -dsimp -implicitDefEqProofs [go_sem]
        refine callDE_borrow [(3, .reg 33 4 (L.map sesR))] d3 (by simp) (fun H2 h2 => cvTA_ss (h2 (3, .reg 33 4 (L.map sesR)) (by simp)) hLl.symm) rfl ?_
        simp +decide -dsimp -implicitDefEqProofs [go_sem]
        refine callDE_pure d4 (by simp [go_sem]) rfl ?_
        simp +decide -dsimp -implicitDefEqProofs [go_sem]
        refine callDE_pure d5 (by simp [go_sem]) rfl ?_
        simp +decide -dsimp -implicitDefEqProofs [go_sem]
        refine knD _ _ _ ?_
        simp +decide -dsimp -implicitDefEqProofs [go_sem]
      by_cases c2 : v = 2
      · simp +decide -dsimp -implicitDefEqProofs [go_sem, c2]
        refine callE_frame [1] (One_c t (k + 1) chkSeats (by omega) (by decide) (by decide)) rfl rfl (by simp) rfl (by simp [tapeO_ren]) ?_
        generalize oneS chkSeats (tapeV t (k + 1)) = z
        obtain ⟨L, hL⟩ : ∃ L, L = l.set i ⟨l[i].id, l[i].user, z, l[i].act⟩ := ⟨_, rfl⟩
        have hLl : L.length = l.length := by rw [hL]; simp
        have E := setE ⟨l[i].id, l[i].user, z, l[i].act⟩
        rw [← hL] at E
        simp only at E
        simp +decide -dsimp -implicitDefEqProofs [go_sem, hil, sesR, E]
        have d1 := Check_c n l (by omega)
        rw [hm.check (by omega) hl] at d1
        have d2 := Check_c n L (by omega)
        have d3 := rCheck_c n L (by omega)
        generalize checkB n L = cb at d2 d3
        have d4 := Check_c nr lr (by omega)
        have d5 := rCheck_c nr lr (by omega)
        generalize checkB nr lr = cr at d4 d5
        simp only [ssV, sesL] at d1 d4 d5
        refine callDE_pure d1 (by simp [go_sem]) rfl ?_
        simp +decide -dsimp -implicitDefEqProofs [go_sem]
        refine callDE_borrow [(3, .reg 33 4 (L.map sesR))] d2 (by simp) (fun H2 h2 => cvTA_ss (h2 (3, .reg 33 4 (L.map sesR)) (by simp)) hLl.symm) rfl ?_
        simp +decide -dsimp -implicitDefEqProofs [go_sem]
        refine callDE_borrow [(3, .reg 33 4 (L.map sesR))] d3 (by simp) (fun H2 h2 => cvTA_ss (h2 (3, .reg 33 4 (L.map sesR)) (by simp)) hLl.symm) rfl ?_
        simp +decide -dsimp -implicitDefEqProofs [go_sem]
        refine callDE_pure d4 (by simp [go_sem]) rfl ?_
        simp +decide -dsimp -implicitDefEqProofs [go_sem]
        refine callDE_pure d5 (by simp [go_sem]) rfl ?_
        simp +decide -dsimp -implicitDefEqProofs [go_sem]
        refine knD _ _ _ ?_
        simp +decide -dsimp -implicitDefEqProofs [go_sem]
      by_cases c3 : v = 3
      · simp +decide -dsimp -implicitDefEqProofs [go_sem, c3]
        refine callE_frame [1] (One_c t (k + 1) chkUsers (by omega) (by decide) (by decide)) rfl rfl (by simp) rfl (by simp [tapeO_ren]) ?_
        generalize oneS chkUsers (tapeV t (k + 1)) = z
        obtain ⟨L, hL⟩ : ∃ L, L = l.set i ⟨l[i].id, z, l[i].seat, l[i].act⟩ := ⟨_, rfl⟩
        have hLl : L.length = l.length := by rw [hL]; simp
        have E := setE ⟨l[i].id, z, l[i].seat, l[i].act⟩
        rw [← hL] at E
        simp only at E
        simp +decide -dsimp -implicitDefEqProofs [go_sem, hil, sesR, E]
        have d1 := Check_c n l (by omega)
        rw [hm.check (by omega) hl] at d1
        have d2 := Check_c n L (by omega)
        have d3 := rCheck_c n L (by omega)
        generalize checkB n L = cb at d2 d3
        have d4 := Check_c nr lr (by omega)
        have d5 := rCheck_c nr lr (by omega)
        generalize checkB nr lr = cr at d4 d5
        simp only [ssV, sesL] at d1 d4 d5
        refine callDE_pure d1 (by simp [go_sem]) rfl ?_
        simp +decide -dsimp -implicitDefEqProofs [go_sem]
        refine callDE_borrow [(3, .reg 33 4 (L.map sesR))] d2 (by simp) (fun H2 h2 => cvTA_ss (h2 (3, .reg 33 4 (L.map sesR)) (by simp)) hLl.symm) rfl ?_
        simp +decide -dsimp -implicitDefEqProofs [go_sem]
        refine callDE_borrow [(3, .reg 33 4 (L.map sesR))] d3 (by simp) (fun H2 h2 => cvTA_ss (h2 (3, .reg 33 4 (L.map sesR)) (by simp)) hLl.symm) rfl ?_
        simp +decide -dsimp -implicitDefEqProofs [go_sem]
        refine callDE_pure d4 (by simp [go_sem]) rfl ?_
        simp +decide -dsimp -implicitDefEqProofs [go_sem]
        refine callDE_pure d5 (by simp [go_sem]) rfl ?_
        simp +decide -dsimp -implicitDefEqProofs [go_sem]
        refine knD _ _ _ ?_
        simp +decide -dsimp -implicitDefEqProofs [go_sem]
      by_cases c4 : v = 4
      · simp +decide -dsimp -implicitDefEqProofs [go_sem, c4, hil, sesR]
        refine callDE_frame [1] (Next_c t (k + 1) 2 (by omega) (by omega)) rfl rfl (by simp) (by simp [go_sem]) (by simp [tapeO_ren]) ?_
        generalize fold (tapeV t (k + 1)) 2 = z
        simp +decide -dsimp -implicitDefEqProofs [go_sem]
        generalize IntKind.i64.wrap (l[i].id + z) = N
        have d1 := Check_c n l (by omega)
        rw [hm.check (by omega) hl] at d1
        have d2 := Check_c N l (by omega)
        have d3 := rCheck_c N l (by omega)
        generalize checkB N l = cb at d2 d3
        have d4 := Check_c nr lr (by omega)
        have d5 := rCheck_c nr lr (by omega)
        generalize checkB nr lr = cr at d4 d5
        simp only [ssV, sesL] at d1 d4 d5
        refine callDE_pure d1 (by simp [go_sem]) rfl ?_
        simp +decide -dsimp -implicitDefEqProofs [go_sem]
        refine callDE_borrow [(3, .reg 33 4 (l.map sesR))] d2 (by simp) (fun H2 h2 => cvTA_ss (h2 (3, .reg 33 4 (l.map sesR)) (by simp)) rfl) rfl ?_
        simp +decide -dsimp -implicitDefEqProofs [go_sem]
        refine callDE_borrow [(3, .reg 33 4 (l.map sesR))] d3 (by simp) (fun H2 h2 => cvTA_ss (h2 (3, .reg 33 4 (l.map sesR)) (by simp)) rfl) rfl ?_
        simp +decide -dsimp -implicitDefEqProofs [go_sem]
        refine callDE_pure d4 (by simp [go_sem]) rfl ?_
        simp +decide -dsimp -implicitDefEqProofs [go_sem]
        refine callDE_pure d5 (by simp [go_sem]) rfl ?_
        simp +decide -dsimp -implicitDefEqProofs [go_sem]
        refine knD _ _ _ ?_
        simp +decide -dsimp -implicitDefEqProofs [go_sem]
      simp +decide -dsimp -implicitDefEqProofs [go_sem, c0, c1, c2, c3, c4]
      have d1 := Check_c n l (by omega)
      rw [hm.check (by omega) hl] at d1
      have d2 := Check_c n l (by omega)
      have d3 := rCheck_c n l (by omega)
      generalize checkB n l = cb at d2 d3
      have d4 := Check_c nr lr (by omega)
      have d5 := rCheck_c nr lr (by omega)
      generalize checkB nr lr = cr at d4 d5
      simp only [ssV, sesL] at d1 d4 d5
      refine callDE_pure d1 (by simp [go_sem]) rfl ?_
      simp +decide -dsimp -implicitDefEqProofs [go_sem]
      refine callDE_borrow [(3, .reg 33 4 (l.map sesR))] d2 (by simp) (fun H2 h2 => cvTA_ss (h2 (3, .reg 33 4 (l.map sesR)) (by simp)) rfl) rfl ?_
      simp +decide -dsimp -implicitDefEqProofs [go_sem]
      refine callDE_borrow [(3, .reg 33 4 (l.map sesR))] d3 (by simp) (fun H2 h2 => cvTA_ss (h2 (3, .reg 33 4 (l.map sesR)) (by simp)) rfl) rfl ?_
      simp +decide -dsimp -implicitDefEqProofs [go_sem]
      refine callDE_pure d4 (by simp [go_sem]) rfl ?_
      simp +decide -dsimp -implicitDefEqProofs [go_sem]
      refine callDE_pure d5 (by simp [go_sem]) rfl ?_
      simp +decide -dsimp -implicitDefEqProofs [go_sem]
      refine knD _ _ _ ?_
      simp +decide -dsimp -implicitDefEqProofs [go_sem]
end Go.Ab
namespace Go.Ab
open Go Go.Proofs
theorem Made.open' {n : Int} {l : List Ses} (h : Made n l) {u s : List UInt8} (hu : validB u = true) (hs : s ∈ [seat0, seat1, seat2]) : Made (n + 1) (l ++ [⟨n, u, s, decide ((ofS l s).length = 0)⟩]) := by
  have := h.add (d := 0) (by omega) hu hs (b := decide ((ofS l s).length = 0)) (by
    cases e : ofS l s with
    | nil =>
      have : ¬ ∃ x ∈ l, x.seat = s := fun ⟨x, hx, hxs⟩ => by
        have : x ∈ ofS l s := ofS_mem.2 ⟨hx, hxs⟩
        rw [e] at this; cases this
      simp [this]
    | cons x r =>
      have hx : x ∈ ofS l s := by rw [e]; simp
      have : ∃ x ∈ l, x.seat = s := ⟨x, ofS_mem.1 hx⟩
      simp [this])
  rwa [Int.add_zero] at this
theorem openG_split (b : Bool) (n : Int) (l : List Ses) (u s : List UInt8) (seats : List (List UInt8)) :
    (∃ er : Int, er ≠ 0 ∧ er ≠ 373 ∧ openG b n l u s seats = .tup [ssV 0 [], .int .i64 0, .int .i64 er]) ∨
    (openG b n l u s seats = .tup [ssV (n + 1) (l ++ [⟨n, u, s, b⟩]), .int .i64 n, .int .i64 0] ∧ validB u = true ∧ s ∈ seats ∧ l.length < 32 ∧ n < 1073741824) := by
  unfold openG
  split
  · exact .inl ⟨370, by decide, by decide, rfl⟩
  · split
    · exact .inl ⟨371, by decide, by decide, rfl⟩
    · split
      · exact .inl ⟨372, by decide, by decide, rfl⟩
      · rename_i h1 h2 h3
        refine .inr ⟨rfl, by simpa using h1, ?_, by omega, by omega⟩
        simp only [not_or, Classical.not_not] at h2; exact h2.2

/-- A round's outcome. -/
structure Rnd (n : Int) (l : List Ses) (n' : Int) (l' : List Ses) : Prop where
  made : Made n' l'
  len : l'.length ≤ 32
  num : n' ≤ n + 1
theorem Rnd.same {n : Int} {l : List Ses} (h : Made n l) (hl : l.length ≤ 32) : Rnd n l n l := ⟨h, hl, by omega⟩

def stV (t : List Int) (s : Nat × Nat × Int × List Ses) : St := ⟨tmps 80 [(2, .bool false), (3, .ptr 0 0), (4, .ptr 1 0), (5, .int .i64 s.1)], [tapeO t s.2.1, .box [.int .i64 s.2.2.1, .imm (s.2.2.2.map sesR)]]⟩
set_option maxHeartbeats 4000000 in
set_option maxRecDepth 20000 in
theorem Valid_c (t : List Int) : ACalls Tryd.prog 7 [tapeA t] [] (.bool true) [] := by
  refine acalls_F c7_ok rfl ?_
  unfold c7 tapeA
  have kn : ∀ (H : List AObj) (K : List AObj → AV → Prop) (u : TagOf K), K H (.bool true) → callE Tryd.prog 15 [] H K u := fun H K u hK => callE_pure known_c rfl rfl hK
  simp +decide -dsimp -implicitDefEqProofs [go_sem]
  refine callE_frame [0] (Next_c t 0 24 (by omega) (by omega)) rfl rfl (by simp) (by simp [go_sem]) (by simp [tape0_at]) ?_
  have bN := fold_bd (tapeV t 0) 24 (by omega)
  obtain ⟨N, hN⟩ : ∃ N : Nat, fold (tapeV t 0) 24 = N := ⟨(fold (tapeV t 0) 24).toNat, by omega⟩
  rw [hN] at bN ⊢
  simp +decide -dsimp -implicitDefEqProofs [go_sem]
  refine loop_of (S := Nat × Nat × Int × List Ses) (stV t) (fun s => s.1) (fun s => s.1 ≤ N ∧ s.2.1 + 3 * s.1 ≤ 1 + 3 * N ∧ Made s.2.2.1 s.2.2.2 ∧ s.2.2.2.length ≤ 32 ∧ s.2.2.1 + s.1 ≤ 1 + N) (N, 1, 1, []) ⟨by simp, by simp, .nil, by simp, by simp only; omega⟩ (cut_of (by simp) ?_) ?_
  · simp +decide -dsimp -implicitDefEqProofs [go_sem, tapeO]
  rintro ⟨k, q, n, l⟩ ⟨hk, hq, hm, hl, hn⟩
  simp only at hk hq hm hl hn
  have hm1 := hm.n1
  have hlt : l.length < 1000000000 := by omega
  unfold stV
  by_cases h : 0 < k
  · have h' : (k : Int) > 0 := by omega
    have w : IntKind.i64.wrap ((k : Int) - 1) = ((k - 1 : Nat) : Int) := by rw [w64 (by omega) (by omega)]; omega
    simp +decide -dsimp -implicitDefEqProofs [go_sem, h]
    refine callE_frame [0] (Next_c t q 6 (by omega) (by omega)) rfl rfl (by simp) (by simp [go_sem]) (by simp [tapeO_ren]) ?_
    have bv := fold_bd (tapeV t q) 6 (by omega)
    generalize fold (tapeV t q) 6 = v at bv
    have fin : ∀ (n' : Int) (l' : List Ses), Rnd n l n' l' → ACalls Tryd.prog 20 [.agg [.int .i64 n', .imm (l'.map sesR)]] [] (.bool true) [] := fun n' l' hR => by
      have := Check_c n' l' (by have := hR.len; omega)
      rw [hR.made.check (by have := hR.num; omega) hR.len] at this
      exact this
    by_cases c0 : v = 0
    · simp +decide -dsimp -implicitDefEqProofs [go_sem, c0]
      refine callDE_frame [0] (Next_c t (q + 1) 12 (by omega) (by omega)) rfl rfl (by simp) (by simp [go_sem]) (by simp [tapeO_ren]) ?_
      generalize fold (tapeV t (q + 1)) 12 = z
      simp +decide -dsimp -implicitDefEqProofs [go_sem]
      generalize IntKind.i64.wrap (1 + z) = z1
      have hc := Close_c n l z1 hlt
      rw [closeS_R] at hc
      cases e : closeR l z1 with
      | none =>
        rw [e] at hc
        simp only [resV, errV, ssV, sesL] at hc
        refine callDE_pure hc (by simp [go_sem]) (by simp [go_sem]) ?_
        simp +decide -dsimp -implicitDefEqProofs [go_sem]
        refine callE_pure (fin n l (Rnd.same hm hl)) (by simp [go_sem]) rfl ?_
        simp +decide -dsimp -implicitDefEqProofs [go_sem, w]
        refine next_of (k - 1, q + 1 + 1, n, l) ⟨by simp only; omega, by simp only; omega, (Rnd.same hm hl).made, (Rnd.same hm hl).len, by have := (Rnd.same hm hl).num; simp only; omega⟩ (by simp only; omega) (cut_of (by simp) ?_)
        simp +decide -dsimp -implicitDefEqProofs [go_sem, tapeO]
      | some l' =>
        rw [e] at hc
        simp only [resV, okV, ssV, sesL] at hc
        have hR : Rnd n l n l' := ⟨hm.close e, by have := closeR_len e; omega, by omega⟩
        refine callDE_pure hc (by simp [go_sem]) (by simp [go_sem]) ?_
        simp +decide -dsimp -implicitDefEqProofs [go_sem]
        refine callE_pure (fin n l' (hR)) (by simp [go_sem]) rfl ?_
        simp +decide -dsimp -implicitDefEqProofs [go_sem, w]
        refine next_of (k - 1, q + 1 + 1, n, l') ⟨by simp only; omega, by simp only; omega, (hR).made, (hR).len, by have := (hR).num; simp only; omega⟩ (by simp only; omega) (cut_of (by simp) ?_)
        simp +decide -dsimp -implicitDefEqProofs [go_sem, tapeO]
    by_cases c1 : v = 1
    · simp +decide -dsimp -implicitDefEqProofs [go_sem, c1]
      refine callDE_frame [0] (Next_c t (q + 1) 12 (by omega) (by omega)) rfl rfl (by simp) (by simp [go_sem]) (by simp [tapeO_ren]) ?_
      generalize fold (tapeV t (q + 1)) 12 = z
      simp +decide -dsimp -implicitDefEqProofs [go_sem]
      generalize IntKind.i64.wrap (1 + z) = z1
      have hc := Activate_c n l z1 hlt
      rw [actS_R] at hc
      cases e : actR l z1 with
      | none =>
        rw [e] at hc
        simp only [resV, errV, ssV, sesL] at hc
        refine callDE_pure hc (by simp [go_sem]) (by simp [go_sem]) ?_
        simp +decide -dsimp -implicitDefEqProofs [go_sem]
        refine callE_pure (fin n l (Rnd.same hm hl)) (by simp [go_sem]) rfl ?_
        simp +decide -dsimp -implicitDefEqProofs [go_sem, w]
        refine next_of (k - 1, q + 1 + 1, n, l) ⟨by simp only; omega, by simp only; omega, (Rnd.same hm hl).made, (Rnd.same hm hl).len, by have := (Rnd.same hm hl).num; simp only; omega⟩ (by simp only; omega) (cut_of (by simp) ?_)
        simp +decide -dsimp -implicitDefEqProofs [go_sem, tapeO]
      | some l' =>
        rw [e] at hc
        simp only [resV, okV, ssV, sesL] at hc
        have hR : Rnd n l n l' := ⟨hm.activate e, by have := actR_len e; omega, by omega⟩
        refine callDE_pure hc (by simp [go_sem]) (by simp [go_sem]) ?_
        simp +decide -dsimp -implicitDefEqProofs [go_sem]
        refine callE_pure (fin n l' (hR)) (by simp [go_sem]) rfl ?_
        simp +decide -dsimp -implicitDefEqProofs [go_sem, w]
        refine next_of (k - 1, q + 1 + 1, n, l') ⟨by simp only; omega, by simp only; omega, (hR).made, (hR).len, by have := (hR).num; simp only; omega⟩ (by simp only; omega) (cut_of (by simp) ?_)
        simp +decide -dsimp -implicitDefEqProofs [go_sem, tapeO]
    by_cases c2 : v = 2
    · simp +decide -dsimp -implicitDefEqProofs [go_sem, c2]
      refine callDE_frame [0] (One_c t (q + 1) [seat0, seat1] (by omega) (by simp) (by simp)) rfl rfl (by simp) rfl (by simp [tapeO_ren]) ?_
      generalize oneS [seat0, seat1] (tapeV t (q + 1)) = z
      simp +decide -dsimp -implicitDefEqProofs [go_sem]
      have hc := Switch_c n l z hlt
      rw [switchS_R] at hc
      cases e : switchR l z with
      | none =>
        rw [e] at hc
        simp only [resV3, ssV, sesL] at hc
        refine callDE_pure hc (by simp [go_sem]) (by simp [go_sem]) ?_
        simp +decide -dsimp -implicitDefEqProofs [go_sem]
        refine callE_pure (fin n l (Rnd.same hm hl)) (by simp [go_sem]) rfl ?_
        simp +decide -dsimp -implicitDefEqProofs [go_sem, w]
        refine next_of (k - 1, q + 1 + 1, n, l) ⟨by simp only; omega, by simp only; omega, (Rnd.same hm hl).made, (Rnd.same hm hl).len, by have := (Rnd.same hm hl).num; simp only; omega⟩ (by simp only; omega) (cut_of (by simp) ?_)
        simp +decide -dsimp -implicitDefEqProofs [go_sem, tapeO]
      | some p =>
        obtain ⟨l', i⟩ := p
        rw [e] at hc
        simp only [resV3, ssV, sesL] at hc
        have hR : Rnd n l n l' := ⟨hm.switch e, by have := switchR_len e; omega, by omega⟩
        refine callDE_pure hc (by simp [go_sem]) (by simp [go_sem]) ?_
        simp +decide -dsimp -implicitDefEqProofs [go_sem]
        refine callE_pure (fin n l' (hR)) (by simp [go_sem]) rfl ?_
        simp +decide -dsimp -implicitDefEqProofs [go_sem, w]
        refine next_of (k - 1, q + 1 + 1, n, l') ⟨by simp only; omega, by simp only; omega, (hR).made, (hR).len, by have := (hR).num; simp only; omega⟩ (by simp only; omega) (cut_of (by simp) ?_)
        simp +decide -dsimp -implicitDefEqProofs [go_sem, tapeO]
    by_cases c3 : v = 3
    · simp +decide -dsimp -implicitDefEqProofs [go_sem, c3]
      refine callDE_frame [0] (Next_c t (q + 1) 2 (by omega) (by omega)) rfl rfl (by simp) (by simp [go_sem]) (by simp [tapeO_ren]) ?_
      have b2 := fold_bd (tapeV t (q + 1)) 2 (by omega)
      generalize fold (tapeV t (q + 1)) 2 = z at b2
      obtain ⟨i, rfl, hi⟩ : ∃ i : Nat, z = i ∧ i ≤ 1 := ⟨z.toNat, by omega, by omega⟩
      have hi3 : i ≤ 3 := by omega
      simp +decide -dsimp -implicitDefEqProofs [go_sem, hi3]
      have es : List.drop i [[AV.str [115, 101, 97, 116, 48]], [AV.str [115, 101, 97, 116, 49]], [AV.str [115, 101, 97, 116, 50]]] = ([seat0, seat1, seat2].drop i).map fun s => [.str s] := by rw [List.map_drop]; rfl
      rw [es]
      have hsl : ([seat0, seat1, seat2].drop i).length < 1000000000 := by simp; omega
      generalize [seat0, seat1, seat2].drop i = ss at hsl
      have hc := Prune_c n l ss hlt hsl
      have hR : Rnd n l n (l.filter fun x => decide (x.seat ∈ ss)) := ⟨hm.prune _, by have := List.length_filter_le (fun x : Ses => decide (x.seat ∈ ss)) l; omega, by omega⟩
      generalize (l.filter fun x => decide (x.seat ∈ ss)) = l' at hc hR
      simp only [ssV, sesL, strsV] at hc
      refine callDE_pure hc (by simp [go_sem, closedLL_map]) (by simp [go_sem]) ?_
      simp +decide -dsimp -implicitDefEqProofs [go_sem]
      refine callE_pure (fin n l' (hR)) (by simp [go_sem]) rfl ?_
      simp +decide -dsimp -implicitDefEqProofs [go_sem, w]
      refine next_of (k - 1, q + 1 + 1, n, l') ⟨by simp only; omega, by simp only; omega, (hR).made, (hR).len, by have := (hR).num; simp only; omega⟩ (by simp only; omega) (cut_of (by simp) ?_)
      simp +decide -dsimp -implicitDefEqProofs [go_sem, tapeO]
    simp +decide -dsimp -implicitDefEqProofs [go_sem, c0, c1, c2, c3]
    refine callDE_frame [0] (One_c t (q + 1) [ann, bob] (by omega) (by simp) (by simp)) rfl rfl (by simp) rfl (by simp [tapeO_ren]) ?_
    have hu : validB (oneS [ann, bob] (tapeV t (q + 1))) = true := by
      have := oneS_mem (tapeV t (q + 1)) (show [ann, bob] ≠ [] by simp)
      revert this; generalize oneS [ann, bob] (tapeV t (q + 1)) = u
      intro hu; simp only [List.mem_cons, List.mem_nil_iff, or_false] at hu
      rcases hu with rfl | rfl <;> decide +kernel
    generalize oneS [ann, bob] (tapeV t (q + 1)) = u at hu
    simp +decide -dsimp -implicitDefEqProofs [go_sem]
    refine callDE_frame [0] (One_c t (q + 1 + 1) seatsL (by omega) (by decide) (by decide)) rfl rfl (by simp) rfl (by simp [tapeO_ren]) ?_
    generalize oneS seatsL (tapeV t (q + 1 + 1)) = z
    simp +decide -dsimp -implicitDefEqProofs [go_sem]
    have hc := Open_c n l u z seatsL hlt (by decide) (by omega)
    rcases openG_split (decide ((ofS l z).length = 0)) n l u z seatsL with ⟨er, he1, _, he2⟩ | ⟨he, g1, g2, g3, g4⟩
    · rw [he2] at hc
      simp only [ssV, sesL] at hc
      refine callDE_pure hc (by simp [go_sem]) (by simp [go_sem]) ?_
      simp +decide -dsimp -implicitDefEqProofs [go_sem, he1]
      refine callE_pure (fin n l (Rnd.same hm hl)) (by simp [go_sem]) rfl ?_
      simp +decide -dsimp -implicitDefEqProofs [go_sem, w]
      refine next_of (k - 1, q + 1 + 1 + 1, n, l) ⟨by simp only; omega, by simp only; omega, (Rnd.same hm hl).made, (Rnd.same hm hl).len, by have := (Rnd.same hm hl).num; simp only; omega⟩ (by simp only; omega) (cut_of (by simp) ?_)
      simp +decide -dsimp -implicitDefEqProofs [go_sem, tapeO]
    · rw [he] at hc
      have hR : Rnd n l (n + 1) (l ++ [⟨n, u, z, decide ((ofS l z).length = 0)⟩]) := ⟨hm.open' g1 g2, by simp; omega, by omega⟩
      generalize l ++ [⟨n, u, z, decide ((ofS l z).length = 0)⟩] = l' at hc hR
      simp only [ssV, sesL] at hc
      refine callDE_pure hc (by simp [go_sem]) (by simp [go_sem]) ?_
      simp +decide -dsimp -implicitDefEqProofs [go_sem]
      refine callE_pure (fin (n + 1) l' (hR)) (by simp [go_sem]) rfl ?_
      simp +decide -dsimp -implicitDefEqProofs [go_sem, w]
      refine next_of (k - 1, q + 1 + 1 + 1, (n + 1), l') ⟨by simp only; omega, by simp only; omega, (hR).made, (hR).len, by have := (hR).num; simp only; omega⟩ (by simp only; omega) (cut_of (by simp) ?_)
      simp +decide -dsimp -implicitDefEqProofs [go_sem, tapeO]
  · have e : k = 0 := by omega
    subst e
    simp +decide -dsimp -implicitDefEqProofs [go_sem]
    refine kn _ _ _ ?_
    simp +decide -dsimp -implicitDefEqProofs [go_sem]
end Go.Ab
namespace Go.Ab
open Go Go.Proofs
theorem turn_turn (l : List Ses) (s : List UInt8) (i j : Int) : (l.map (turnS s j)).map (turnS s i) = l.map (turnS s i) := by
  rw [List.map_map]
  refine List.map_congr_left fun x _ => ?_
  simp only [Function.comp]
  by_cases h : x.seat = s
  · simp [turnS, h]
  · simp [turnS, h]
theorem turn_self {n : Int} {l : List Ses} (h : Made n l) {x : Ses} (hx : x ∈ l) (ha : x.act = true) : l.map (turnS x.seat x.id) = l := by
  refine (List.map_congr_left fun y hy => ?_).trans (List.map_id' l)
  by_cases hs : y.seat = x.seat
  · by_cases hid : y.id = x.id
    · have := ids_eq h.ids hy hx hid
      subst this
      cases y; simp only at ha; simp [turnS, ha]
    · have hna : y.act = false := by
        cases e : y.act with
        | false => rfl
        | true => exact absurd (by rw [h.one hy hx hs e ha]) hid
      cases y; simp only at hs hid hna; simp [turnS, hs, hid, hna]
  · exact turnS_other hs
theorem userS_turn {n : Int} {l : List Ses} (h : Made n l) {x : Ses} (hx : x ∈ l) : userS (l.map (turnS x.seat x.id)) x.seat = x.user := by
  unfold userS
  cases e : (l.map (turnS x.seat x.id)).find? (actP x.seat) with
  | none =>
    rw [List.find?_eq_none] at e
    have := e (turnS x.seat x.id x) (List.mem_map.2 ⟨x, hx, rfl⟩)
    simp [actP, turnS] at this
  | some y =>
    have hy := List.mem_of_find?_eq_some e
    have hp := List.find?_some e
    obtain ⟨z, hz, rfl⟩ := List.mem_map.1 hy
    simp only [actP, turnS_seat, Bool.and_eq_true, beq_iff_eq] at hp
    obtain ⟨h1, h2⟩ := hp
    rw [turnS_act_of h1] at h2
    have := ids_eq h.ids hz hx (by simpa using h2)
    subst this; simp
theorem elsewhere_turn (l : List Ses) (s : List UInt8) (i : Int) : (l.map (turnS s i)).filter (fun x => x.seat != s) = l.filter fun x => x.seat != s := by
  induction l with
  | nil => rfl
  | cons x r ih =>
    simp only [List.map_cons, List.filter_cons, turnS_seat, ih]
    by_cases h : x.seat = s
    · simp [h]
    · rw [turnS_other h]
theorem elsewhere_filter (l : List Ses) (s : List UInt8) (p : Ses → Bool) (h : ∀ x ∈ l, x.seat ≠ s → p x = true) : (l.filter p).filter (fun x => x.seat != s) = l.filter fun x => x.seat != s := by
  rw [List.filter_filter]
  refine List.filter_congr fun x hx => ?_
  by_cases hs : x.seat = s
  · simp [hs]
  · simp [h x hx hs]
/-- Closing a session that was just opened. -/
theorem close_opened {n : Int} {l : List Ses} (h : Made n l) (x : Ses) (hx : x.id = n) (ha : x.act = decide ((ofS l x.seat).length = 0)) : closeR (l ++ [x]) n = some l := by
  have hne : ∀ y ∈ l, (y.id == n) = false := fun y hy => by have := (h.lo y hy).2; simp; omega
  have hf : (l ++ [x]).find? (fun y : Ses => y.id == n) = some x := by
    rw [List.find?_append]
    have : l.find? (fun y : Ses => y.id == n) = none := by rw [List.find?_eq_none]; intro y hy; simp [hne y hy]
    rw [this]; simp [hx]
  have hfi : (l ++ [x]).filter (fun y : Ses => y.id != n) = l := by
    rw [List.filter_append]
    have : l.filter (fun y : Ses => y.id != n) = l := List.filter_eq_self.2 fun y hy => by simp only [bne, hne y hy]; rfl
    rw [this]; simp [hx]
  unfold closeR
  rw [hf]
  simp only [hfi]
  cases e : ofS l x.seat with
  | nil => cases x.act <;> rfl
  | cons y r => rw [ha, e]; simp
theorem actR_at {n : Int} {l : List Ses} (h : Made n l) {x : Ses} (hx : x ∈ l) : actR l x.id = some (l.map (turnS x.seat x.id)) := by
  unfold actR
  cases e : l.find? (·.id == x.id) with
  | none => rw [List.find?_eq_none] at e; have := e x hx; simp at this
  | some y =>
    have := ids_eq h.ids (List.mem_of_find?_eq_some e) hx (by simpa using List.find?_some e)
    subst this; rfl
end Go.Ab
