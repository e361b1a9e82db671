/- A layer of abstract values over the model, and what is proved with it: part AA. -/
import Derived.Test.YtpknaffdaemlbaaGreatDoorOX
import Derived.Test.YtpknaffdaemlbaaGreatDoorCX
import Derived.Test.YtpknaffdaemlbaaGreatDoorT2
import Derived.Test.YtpknaffdaemlbaaGreatDoorSB
import Derived.Test.YtpknaffdaemlbaaGreatDoorK3
namespace Go.Ab
open Go Go.Proofs
def c28 : AFn := ⟨(sq [(ox 2 (.mov (.v .nils)))] (sq [(ox 3 (.mov (.v .nils)))] (.seq (sq [(mv 7 0), (ox 8 (.nilchk (.t 7))), (ox 9 (fa 1 8)), (ox 10 (ld 9)), (ox 11 (.mrange (.t 10)))] (.block 0 (.loop (sq [(ox 12 (.mnext (.t 11))), (ox 13 (xt 12 0))] (.seq (cd 13 .skip (.exit 0)) (.block 1 (sq [(ox 14 (.mentry (.t 11))), (ox 15 (xt 14 0)), (mv 4 15)] (sq [(mv 17 0), (mv 18 4), (ox 19 (fc 49 [(.t 17), (.t 18)])), (mv 16 19), (ox 20 (xt 16 0)), (ox 21 (xt 16 1)), (ox 5 (.alloc 34 [(.str []), (.int .i64 0), .nils, .nils, .nils, .nils, .nils, (.str []), (.int .i64 0), (.str []), (.str []), (.int .i64 0)])), (on (.store (some 12) (.t 5) (.t 20))), (mv 6 21)] (sq [(mv 22 6)] (cd 22 (.ops [(mv 23 3), (ox 24 (.load (some 12) (.t 5))), (ox 25 (.bslice 34 12 false [(.t 24)])), (ox 26 (.append 34 12 208 (.t 23) (.t 25))), (mv 3 26)]) .skip)))))))))) (sq [(mv 27 3), (ox 28 (fc 59 [(.t 27), (.v (.fn (.func 60) [] []))]))] (sq [(mv 29 3), (mv 2 29)] .ret))))), 30, [(.tmp 2)]⟩
theorem c28_ok : compileF Tryz.prog [] 28 = some c28 := by kernel_rfl
def c29 : AFn := ⟨(sq [(ox 2 (.mov (.v .nils)))] (sq [(ox 3 (.mov (.v .nils)))] (.seq (sq [(mv 8 0), (ox 9 (.nilchk (.t 8))), (ox 10 (fa 1 9)), (ox 11 (ld 10)), (ox 12 (fc 52 [(.t 11)])), (ox 13 (fc 51 [(.t 12)])), (ox 14 (.len .sl (.t 13))), (ox 15 (.mov (iv 0)))] (.block 0 (.loop (sq [(ox 16 (b2 .lss 15 14))] (.seq (cd 16 .skip (.exit 0)) (.seq (.block 1 (sq [(ox 17 (.iaddr none 1 (.t 13) (.t 15))), (ox 18 (ld 17)), (mv 5 18)] (sq [(mv 20 0), (mv 21 5), (ox 22 (fc 49 [(.t 20), (.t 21)])), (mv 19 22), (ox 23 (xt 19 0)), (ox 24 (xt 19 1)), (ox 6 (.alloc 34 [(.str []), (.int .i64 0), .nils, .nils, .nils, .nils, .nils, (.str []), (.int .i64 0), (.str []), (.str []), (.int .i64 0)])), (on (.store (some 12) (.t 6) (.t 23))), (mv 7 24)] (sq [(mv 25 7), (ox 26 (.un .not (.t 25)))] (cd 26 (.ops [(mv 27 3), (mv 28 5), (ox 29 (.bslice 9 1 false [(.t 28)])), (ox 30 (.append 9 1 16 (.t 27) (.t 29))), (mv 3 30)]) .skip))))) (.ops [(ox 31 (b1 .add 15 1)), (mv 15 31)]))))))) (sq [(mv 32 3), (mv 2 32)] .ret)))), 33, [(.tmp 2)]⟩
theorem c29_ok : compileF Tryz.prog [] 29 = some c29 := by kernel_rfl
def c27 : AFn := ⟨(sq [(ox 2 (.mov (.v .nilp)))] (sq [(ox 8 (fc 12 [])), (mv 3 8)] (.seq (sq [(mv 9 0), (ox 10 (.len .sl (.t 9))), (ox 11 (.mov (iv 0)))] (.block 0 (.loop (sq [(ox 12 (b2 .lss 11 10))] (.seq (cd 12 .skip (.exit 0)) (.seq (.block 1 (sq [(ox 13 (.iaddr none 2 (.t 9) (.t 11))), (ox 14 (.load (some 2) (.t 13))), (ox 5 (.alloc 53 [(.str []), (.str [])])), (on (.store (some 2) (.t 5) (.t 14)))] (.seq (.draw [(mv 16 3), (ox 17 (.nilchk (.t 16))), (ox 18 (fa 1 17)), (ox 19 (ld 18)), (ox 20 (fa 0 5)), (ox 21 (ld 20)), (ox 22 (.lookup .str (.str []) true (.t 19) (.t 21))), (mv 15 22), (ox 23 (xt 15 0)), (ox 24 (xt 15 1)), (mv 6 23), (mv 7 24)] [0, 1, 3, 7, 0, 16, 63, 127, 255, 255, 511, 2047]) (sq [(mv 25 7), (mv 26 25), (of 27 (.mov (.t 3)) 26), (of 28 (.nilchk (.t 27)) 26), (of 29 (fa 1 28) 26), (of 30 (ld 29) 26), (of 31 (.len .mp (.t 30)) 26), (of 32 (b1 .lss 31 512) 26), (ox 33 (.pick (.t 26) (.v (.bool true)) (.t 32)))] (cd 33 (.draw [(mv 34 3), (ox 35 (.nilchk (.t 34))), (ox 36 (fa 1 35)), (ox 37 (ld 36)), (ox 38 (fa 0 5)), (ox 39 (ld 38)), (ox 40 (fa 1 5)), (ox 41 (ld 40)), (on (.mapset .str (.t 37) (.t 39) (.t 41)))] [0, 1, 3, 7, 0, 16, 0, 64, 255]) .skip))))) (.ops [(ox 42 (b1 .add 11 1)), (mv 11 42)]))))))) (sq [(mv 43 3), (mv 44 3), (ox 45 (.nilchk (.t 44))), (ox 46 (fa 1 45)), (ox 47 (ld 46)), (ox 48 (fc 43 [(.t 47)])), (ox 49 (.nilchk (.t 43))), (ox 50 (fa 0 49)), (on (.store none (.t 50) (.t 48)))] (sq [(mv 51 3), (mv 2 51)] .ret))))), 52, [(.tmp 2)]⟩
theorem c27_ok : compileF Tryz.prog [] 27 = some c27 := by kernel_rfl
def c36 : AFn := ⟨(sq [(ox 4 (.mov (iv 0)))] (sq [(mv 10 0), (mv 11 1), (ox 12 (fc 49 [(.t 10), (.t 11)])), (mv 9 12), (ox 13 (xt 9 0)), (ox 14 (xt 9 1)), (ox 5 (.alloc 34 [(.str []), (.int .i64 0), .nils, .nils, .nils, .nils, .nils, (.str []), (.int .i64 0), (.str []), (.str []), (.int .i64 0)])), (on (.store (some 12) (.t 5) (.t 13))), (mv 6 14)] (.seq (sq [(mv 16 0), (ox 17 (.nilchk (.t 16))), (ox 18 (fa 1 17)), (ox 19 (ld 18)), (mv 20 1), (ox 21 (.lookup .str (.str []) true (.t 19) (.t 20))), (mv 15 21), (ox 22 (xt 15 0)), (ox 23 (xt 15 1)), (mv 7 22), (mv 8 23)] (sq [(mv 24 8), (ox 25 (.un .not (.t 24))), (mv 26 25), (of 27 (.mov (.t 6)) 26), (ox 28 (.pick (.t 26) (.v (.bool true)) (.t 27)))] (cd 28 (sq [(ox 4 (.mov (iv 262)))] .ret) .skip))) (sq [(mv 29 0), (mv 30 1), (ox 31 (.build [(.str []), (.str [])] [(0, (1, (.t 30)))])), (ox 32 (.mkfn (.func 46) [(.t 31)] [])), (ox 33 (fc 45 [(.t 29), (.t 32)])), (mv 4 33)] .ret)))), 34, [(.tmp 4)]⟩
theorem c36_ok : compileF Tryz.prog [] 36 = some c36 := by kernel_rfl
def c33 : AFn := ⟨(sq [(ox 4 (mb false))] (.seq (sq [(mv 6 0), (ox 7 (.len .sl (.t 6))), (mv 8 1), (ox 9 (.len .sl (.t 8))), (ox 10 (b2 .neq 7 9))] (cd 10 (sq [(ox 4 (mb false))] .ret) .skip)) (.seq (sq [(ox 5 (.mov (iv 0)))] (.block 0 (.loop (.seq (sq [(mv 11 5), (mv 12 0), (ox 13 (.len .sl (.t 12))), (ox 14 (b2 .lss 11 13))] (cd 14 .skip (.exit 0))) (.seq (.block 1 (.seq (.draw [(mv 17 0), (mv 18 5), (ox 19 (.iaddr none 12 (.t 17) (.t 18))), (ox 20 (.load (some 12) (.t 19))), (mv 21 1), (mv 22 5), (ox 23 (.iaddr none 12 (.t 21) (.t 22))), (ox 24 (.load (some 12) (.t 23))), (ox 25 (fc 50 [(.t 20), (.t 24)])), (ox 26 (.un .not (.t 25)))] [0, 0, 3, 7, 0, 0, 48, 112, 255, 511]) (cd 26 (sq [(ox 4 (mb false))] .ret) .skip))) (.ops [(mv 15 5), (ox 16 (b1 .add 15 1)), (mv 5 16)])))))) (sq [(ox 4 (mb true))] .ret)))), 27, [(.tmp 4)]⟩
theorem c33_ok : compileF Tryz.prog [] 33 = some c33 := by kernel_rfl
end Go.Ab
namespace Go.Ab
open Go Go.Proofs Go.Sort
theorem at_some {β : Type} {k : List UInt8} {v : β} : ∀ {m : SMap β} {j : Nat}, m[j]? = some (some (k, v)) → getS k m ≠ none
  | [], j, h => by simp at h
  | none :: r, 0, h => by simp at h
  | none :: r, j + 1, h => by simpa [getS] using at_some (m := r) (j := j) (by simpa using h)
  | some p :: r, 0, h => by simp at h; subst h; simp [getS]
  | some p :: r, j + 1, h => by
    have := at_some (m := r) (j := j) (by simpa using h)
    simp only [getS]
    split
    · simp
    · exact this
theorem two_at {β : Type} {k : List UInt8} {v w : β} : ∀ {m : SMap β} {i j : Nat}, oneS' m → m[i]? = some (some (k, v)) → m[j]? = some (some (k, w)) → i = j
  | [], i, j, _, h, _ => by simp at h
  | none :: r, 0, _, _, h, _ => by simp at h
  | none :: r, _ + 1, 0, _, _, h => by simp at h
  | none :: r, i + 1, j + 1, ho, h1, h2 => by rw [two_at (m := r) (i := i) (j := j) ho (by simpa using h1) (by simpa using h2)]
  | some p :: r, 0, 0, _, _, _ => rfl
  | some p :: r, 0, j + 1, ho, h1, h2 => by
    simp at h1; subst h1
    exact absurd ho.1 (at_some (m := r) (j := j) (by simpa using h2))
  | some p :: r, i + 1, 0, ho, h1, h2 => by
    simp at h2; subst h2
    exact absurd ho.1 (at_some (m := r) (j := i) (by simpa using h1))
  | some p :: r, i + 1, j + 1, ho, h1, h2 => by rw [two_at (m := r) (i := i) (j := j) ho.2 (by simpa using h1) (by simpa using h2)]
structure Fine (m : TMap) (n : Nat) : Prop extends Good m n where
  tx : ∀ k t, getS k m = some t → t.length ≤ 40000
theorem Fine.nil : Fine [] 0 := ⟨.nil, by simp [getS]⟩
theorem Fine.set {m : TMap} {n : Nat} {k v : List UInt8} (h : Fine m n) (hk : k.length ≤ 1000000) (hv : v.length ≤ 40000) : Fine (setS k v m) (n + 1) :=
  ⟨h.toGood.set hk v, fun j t ht => by
    rw [get_set] at ht
    split at ht
    · cases ht; exact hv
    · exact h.tx j t ht⟩
theorem Fine.del {m : TMap} {n : Nat} (h : Fine m n) (k : List UInt8) : Fine (delS k m) n :=
  ⟨h.toGood.del k, fun j t ht => by
    rw [get_del j k h.o] at ht
    split at ht
    · cases ht
    · exact h.tx j t ht⟩
theorem Fine.le {m : TMap} {n n' : Nat} (h : Fine m n) (hn : n ≤ n') : Fine m n' := ⟨⟨h.o, h.k, Nat.le_trans h.n hn⟩, h.tx⟩
structure SeenR (seen : TMap) (vis : List Nat) (l : List Rcd) : Prop where
  nd : vis.Nodup
  lt : ∀ j ∈ vis, j < seen.length
  mem : ∀ r, r ∈ l ↔ soundB r = true ∧ ∃ j ∈ vis, seen[j]? = some (some (entL r.path, encT r))
  ds : l.Pairwise fun a b => a.path ≠ b.path
  len : l.length ≤ vis.length
theorem SeenR.nil (seen : TMap) : SeenR seen [] [] := ⟨by simp, by simp, by simp, .nil, Nat.le_refl _⟩
theorem SeenR.step {seen : TMap} {vis : List Nat} {l : List Rcd} (h : SeenR seen vis l) (ho : oneS' seen) {j : Nat} {n t : List UInt8} (hj : seen[j]? = some (some (n, t))) (hn : j ∉ vis) {r : Rcd} {b : Bool} (hr : readOf seen n r b) :
    SeenR seen (vis ++ [j]) (if b = true then l ++ [r] else l) := by
  have hjl := (List.getElem?_eq_some_iff.1 hj).1
  have hg := get_at ho hj
  have nd : (vis ++ [j]).Nodup := by
    rw [List.nodup_append]
    refine ⟨h.nd, by simp, fun a ha b hb => ?_⟩
    simp at hb; subst hb
    exact fun e => hn (e ▸ ha)
  have lt : ∀ x ∈ vis ++ [j], x < seen.length := fun x hx => by
    rcases List.mem_append.1 hx with hx | hx
    · exact h.lt x hx
    · simp at hx; omega
  rcases hr with ⟨x, hx, hxe, he, rfl, rfl⟩ | ⟨hno, rfl, rfl⟩
  · rw [hg] at hxe
    simp only [Option.getD_some] at hxe
    rw [if_pos rfl]
    refine ⟨nd, lt, fun s => ?_, ?_, by simp; exact h.len⟩
    · rw [List.mem_append, h.mem]
      constructor
      · rintro (⟨hs, k, hk, hks⟩ | hs)
        · exact ⟨hs, k, List.mem_append_left _ hk, hks⟩
        · simp at hs; subst hs
          exact ⟨hx, j, by simp, by rw [hj, ← he, hxe]⟩
      · rintro ⟨hs, k, hk, hks⟩
        rcases List.mem_append.1 hk with hk | hk
        · exact .inl ⟨hs, k, hk, hks⟩
        · simp at hk; subst hk
          rw [hj] at hks
          simp only [Option.some.injEq, Prod.mk.injEq] at hks
          refine .inr ?_
          simp
          exact enc_inj hs hx (hks.2.symm.trans hxe.symm)
    · rw [List.pairwise_append]
      refine ⟨h.ds, by simp, fun a ha b hb => ?_⟩
      simp at hb; subst hb
      obtain ⟨_, k, hk, hks⟩ := (h.mem a).1 ha
      intro e
      rw [e] at hks
      have h1 := get_at ho hks
      rw [he, hg] at h1
      rw [he] at hks
      have : k = j := two_at ho hks hj
      exact hn (this ▸ hk)
  · rw [if_neg (by simp)]
    refine ⟨nd, lt, fun s => ?_, h.ds, by simp; exact Nat.le_succ_of_le h.len⟩
    rw [h.mem]
    constructor
    · rintro ⟨hs, k, hk, hks⟩
      exact ⟨hs, k, List.mem_append_left _ hk, hks⟩
    · rintro ⟨hs, k, hk, hks⟩
      rcases List.mem_append.1 hk with hk | hk
      · exact ⟨hs, k, hk, hks⟩
      · simp at hk; subst hk
        rw [hj] at hks
        simp only [Option.some.injEq, Prod.mk.injEq] at hks
        exact (hno s hs (by rw [hg, hks.2]; rfl) hks.1.symm).elim
theorem SeenR.all {seen : TMap} {vis : List Nat} {l l' : List Rcd} (h : SeenR seen vis l) (ho : oneS' seen) (hA : ∀ (j : Nat) (p : List UInt8 × List UInt8), seen[j]? = some (some p) → j ∈ vis) (h1 : ∀ x, x ∈ l' ↔ x ∈ l) (h2 : ascR l') : AllOf seen l' :=
  ⟨fun r => by
    rw [h1, h.mem]
    constructor
    · rintro ⟨hs, j, _, hj⟩
      exact ⟨hs, get_at ho hj⟩
    · rintro ⟨hs, hg⟩
      obtain ⟨j, hj⟩ := at_get hg
      exact ⟨hs, j, hA j _ hj, hj⟩, h2⟩
theorem sound_place {r : Rcd} (h : soundB r = true) : placeB r.path = true := by
  simp only [soundB, Bool.and_eq_true] at h
  exact h.1.1.1.1.1.1.1.1.1.1.1
theorem renLL_rRows (is : List Nat) (l : List Rcd) : renLL is (l.map rRow) = l.map rRow := by
  induction l with
  | nil => rfl
  | cons x r ih => rw [List.map_cons, renLL, ih, rRow_ren]
set_option maxRecDepth 20000 in
set_option maxHeartbeats 4000000 in
theorem All_c (dur seen : TMap) (pend : List Wr) {n : Nat} (hF : Fine seen n) (hn : n ≤ 1000) :
    ACallsR Tryz.prog 28 [.ptr 0 0] (dbO dur seen pend) (fun v G => G = dbO dur seen pend ∧ ∃ l, AllOf seen l ∧ v = .imm (l.map rRow)) := by
  have hcl := wRows_cl
  have hwr := wRows_ren
  have hsr := smK_renS
  have hrc := closedLL_rRows
  have hrr := renLL_rRows
  have hsl := hF.n
  have hsc : ∀ (m : TMap) (k : Nat) (a b : AV), (a, b) ∈ smK .str m → closed k a = true ∧ closed k b = true := fun m k => smK_clm (k := k) fun _ => rfl
  refine acalls_E _ 0 c28_ok ?_
  unfold c28 dbO dbB mO
  simp +decide -dsimp -implicitDefEqProofs [go_sem]
  refine loop_of (S := List Nat × List Rcd) (fun s => ⟨tmps 30 [(0, .ptr 0 0), (3, .own 5 s.2.length), (11, .it 4)], [.box 83 [.map 1, .map 2, .own 3 pend.length], .map (smK .str dur), .map (smK .str seen), .reg 88 1 (pend.map wRow), .iter 2 seen.length s.1, .reg 34 12 (s.2.map rRow)]⟩) (fun s => seen.length - s.1.length) (fun s => SeenR seen s.1 s.2) ([], []) (SeenR.nil seen) ((Wk.nilT 3 34 12 rfl (by simp)).trans (cut_of (by simp) ?_)) ?_
  · simp +decide -dsimp -implicitDefEqProofs [go_sem, hcl]
    exact ⟨hsc _ _, hsc _ _⟩
  rintro ⟨vis, l⟩ hv
  simp only at hv
  simp +decide -dsimp -implicitDefEqProofs [go_sem]
  refine mnext_of (i := 4) (m := 2) (kvs := smK AV.str seen) rfl rfl (length_smK AV.str seen).symm (fun hA => ?_) (fun j kk x hj hg hnj => ?_)
  · have hll : l.length ≤ 1000 := by
      have h1 := hv.len
      have h2 := nodup_le seen.length vis hv.nd hv.lt
      omega
    have cs := SortFunc_R l (by omega) (fun x hx => sound_place ((hv.mem x).1 hx).1) hv.ds
    simp +decide -dsimp -implicitDefEqProofs [go_sem]
    refine callE_frameR [5] cs rfl (fun v G ⟨_, _, _, _, _, hG⟩ => by rw [hG]; rfl) (by simp) (by simp +decide -dsimp -implicitDefEqProofs [go_sem]) (by simp +decide -dsimp -implicitDefEqProofs [go_sem, hrr]) ?_
    rintro _ _ ⟨rfl, l', h1, h2, h3, rfl⟩
    simp +decide -dsimp -implicitDefEqProofs [go_sem, hrr]
    refine end_of (.imm (l'.map rRow)) (dbO dur seen pend) ⟨rfl, l', hv.all hF.o (fun j p hj => hA j _ (smK_put hj).1 rfl) h1 h3, rfl⟩ rfl ?_
    simp +decide -dsimp -implicitDefEqProofs [go_sem, dbO, dbB, mO_def, hcl, hrc, h2]
    exact ⟨hsc _ _, hsc _ _⟩
  · obtain ⟨p, hjp, rfl, rfl⟩ := smK_at hj hg
    obtain ⟨nm, tx⟩ := p
    have hjl := (List.getElem?_eq_some_iff.1 hjp).1
    have hvl := vis_lt hv.nd hv.lt hjl hnj
    rw [List.length_append] at hvl
    simp only [List.length_cons, List.length_nil] at hvl
    have hgs := get_at hF.o hjp
    obtain ⟨r, b, hr, cr⟩ := read_c dur seen pend nm (by rw [hgs]; have := hF.tx _ _ hgs; simp only [Option.getD_some]; omega)
    have hst := hv.step hF.o hjp hnj hr
    have hll : l.length ≤ 1000 := by
      have h1 := hv.len
      have h2 := nodup_le seen.length vis hv.nd hv.lt
      omega
    unfold recV dbO dbB mO at cr
    have hj' : (smK AV.str seen)[j]? = some (AV.str nm, AV.str tx) := hj
    simp +decide -dsimp -implicitDefEqProofs [go_sem, hj', isGap]
    refine callE_frame [0, 1, 2, 3] cr rfl rfl (by simp) (by simp +decide -dsimp -implicitDefEqProofs [go_sem]) (by simp +decide -dsimp -implicitDefEqProofs [go_sem, hsr, hwr]) ?_
    cases b with
    | true =>
      have ha : l.map rRow ++ [rRow r] = (l ++ [r]).map rRow := by simp
      simp only [if_true] at hst
      simp +decide -dsimp -implicitDefEqProofs [go_sem, hsr, hwr, rRow_len, rRow_ren, rRow_take, maxLen]
      refine ⟨⟨by omega, by omega⟩, ?_⟩
      rw [ha]
      refine next_of (vis ++ [j], l ++ [r]) hst (by show seen.length - (vis ++ [j]).length < seen.length - vis.length; simp; omega) (cut_of (by simp) ?_)
      simp +decide -dsimp -implicitDefEqProofs [go_sem, hcl, hrc]
      exact ⟨hsc _ _, hsc _ _, rRow_cl _ _⟩
    | false =>
      simp only [Bool.false_eq_true, if_false] at hst
      simp +decide -dsimp -implicitDefEqProofs [go_sem, hsr, hwr, rRow_len, rRow_ren]
      refine next_of (vis ++ [j], l) hst (by show seen.length - (vis ++ [j]).length < seen.length - vis.length; simp; omega) (cut_of (by simp) ?_)
      simp +decide -dsimp -implicitDefEqProofs [go_sem, hcl, hrc]
      exact ⟨hsc _ _, hsc _ _⟩
end Go.Ab
namespace Go.Ab
open Go Go.Proofs
theorem SameRecords_c (l : List Rcd) (hf : ∀ x ∈ l, Fit x) (hn : l.length ≤ 100000) : ACalls Tryz.prog 33 [.imm (l.map rRow), .imm (l.map rRow)] [] (.bool true) [] := by
  have hrc := closedLL_rRows
  refine acalls_F c33_ok rfl ?_
  unfold c33
  simp +decide -dsimp -implicitDefEqProofs [go_sem]
  refine loop_of (S := Nat) (fun i => ⟨tmps 27 [(0, .imm (l.map rRow)), (1, .imm (l.map rRow)), (5, .int .i64 i)], []⟩) (fun i => l.length - i) (fun i => i ≤ l.length) 0 (by simp) (cut_of (by simp) ?_) ?_
  · simp +decide -dsimp -implicitDefEqProofs [go_sem, hrc]
  intro i hi
  by_cases h : i < l.length
  · have w : IntKind.i64.wrap ((i : Int) + 1) = i + 1 := w64 (by omega) (by omega)
    have cs := sameRecord_c l[i] l[i] (hf _ (by simp)) (hf _ (by simp))
    rw [decide_eq_true rfl] at cs
    simp +decide -dsimp -implicitDefEqProofs [go_sem, h, rRow_len, rRow_take]
    refine callDE_pure cs (by simp +decide -dsimp -implicitDefEqProofs [go_sem, rRow_cl]) rfl ?_
    simp +decide -dsimp -implicitDefEqProofs [go_sem, w]
    refine next_of (i + 1) (by show i + 1 ≤ l.length; omega) (by show l.length - (i + 1) < l.length - i; omega) (cut_of (by simp) ?_)
    simp +decide -dsimp -implicitDefEqProofs [go_sem, hrc]
  · have e : i = l.length := by omega
    subst e
    simp +decide -dsimp -implicitDefEqProofs [go_sem]
end Go.Ab
namespace Go.Ab
open Go Go.Proofs
def loadE (m : TMap) (e : List UInt8 × List UInt8) : TMap := if (getS e.1 m).isSome = true ∨ cntS m < 512 then setS e.1 e.2 m else m
def loadM (l : List (List UInt8 × List UInt8)) : TMap := l.foldl loadE []
set_option maxRecDepth 20000 in
set_option maxHeartbeats 2000000 in
theorem Load_c (l : List (List UInt8 × List UInt8)) (hn : l.length ≤ 100000) : ACallsR Tryz.prog 27 [.imm (l.map eRow)] [] (fun v G => v = .ptr 0 0 ∧ G = dbO (loadM l) (loadM l) []) := by
  have hsr := smK_renS
  have hec := closedLL_eRows
  have hn0 : ∀ (is : List Nat), renLL is [] = [] := fun _ => rfl
  have hsc : ∀ (m : TMap) (k : Nat) (a b : AV), (a, b) ∈ smK .str m → closed k a = true ∧ closed k b = true := fun m k => smK_clm (k := k) fun _ => rfl
  refine acalls_W _ c27_ok ?_
  unfold c27
  simp +decide -dsimp -implicitDefEqProofs [go_sem]
  refine callE_grow [] 4 new_c rfl (fun v G h => by rw [h.2]; rfl) (by show (List.range' 0 4).Nodup; decide) rfl (by simp) ?_
  rintro _ _ ⟨rfl, rfl⟩
  simp +decide -dsimp -implicitDefEqProofs [go_sem, dbO, dbB, mO, hsr, hn0]
  refine loop_of (S := Nat) (fun i => ⟨tmps 52 [(0, .imm (l.map eRow)), (3, .ptr 0 0), (9, .imm (l.map eRow)), (10, .int .i64 l.length), (11, .int .i64 i)], [.box 83 [.map 1, .map 2, .own 3 0], .map (smK .str ([] : TMap)), .map (smK .str (loadM (l.take i))), .reg 88 1 []]⟩) (fun i => l.length - i) (fun i => i ≤ l.length) 0 (by simp) (cut_of (by simp) ?_) ?_
  · simp +decide -dsimp -implicitDefEqProofs [go_sem, hec, loadM, smK]
  intro i hi
  by_cases h : i < l.length
  · have w : IntKind.i64.wrap ((i : Int) + 1) = i + 1 := w64 (by omega) (by omega)
    have hnx : loadM (l.take (i + 1)) = loadE (loadM (l.take i)) l[i] := by
      unfold loadM; rw [List.take_succ_eq_append_getElem h, List.foldl_append]; rfl
    generalize loadM (l.take i) = m at hnx
    have hk := keys_smK AV.str l[i].1 m
    have hf := find_smK AV.str l[i].1 m
    have hlv := live_smK AV.str m
    have hst := set_smK AV.str l[i].1 l[i].2 m
    unfold loadE at hnx
    cases hg : getS l[i].1 m with
    | none =>
      rw [hg] at hf hnx
      simp only [Option.isSome_none, Bool.false_eq_true, false_or] at hnx
      by_cases hc : cntS m < 512
      · rw [if_pos hc] at hnx
        have hc' : (cntS m : Int) < 512 := by omega
        simp +decide -dsimp -implicitDefEqProofs [go_sem, h, eRow, hk, hf, hlv, hc', hst, w]
        refine next_of (i + 1) (by show i + 1 ≤ l.length; omega) (by show l.length - (i + 1) < l.length - i; omega) (cut_of (by simp) ?_)
        rw [hnx]
        simp +decide -dsimp -implicitDefEqProofs [go_sem, hec]
        exact hsc _ _
      · rw [if_neg hc] at hnx
        have hc' : ¬ (cntS m : Int) < 512 := by omega
        simp +decide -dsimp -implicitDefEqProofs [go_sem, h, eRow, hk, hf, hlv, hc', w]
        refine next_of (i + 1) (by show i + 1 ≤ l.length; omega) (by show l.length - (i + 1) < l.length - i; omega) (cut_of (by simp) ?_)
        rw [hnx]
        simp +decide -dsimp -implicitDefEqProofs [go_sem, hec]
        exact hsc _ _
    | some t0 =>
      rw [hg] at hf hnx
      simp only [Option.isSome_some, true_or, if_true] at hnx
      simp +decide -dsimp -implicitDefEqProofs [go_sem, h, eRow, hk, hf, hst, w]
      refine next_of (i + 1) (by show i + 1 ≤ l.length; omega) (by show l.length - (i + 1) < l.length - i; omega) (cut_of (by simp) ?_)
      rw [hnx]
      simp +decide -dsimp -implicitDefEqProofs [go_sem, hec]
      exact hsc _ _
  · have e : i = l.length := by omega
    subst e
    rw [List.take_length]
    simp +decide -dsimp -implicitDefEqProofs [go_sem]
    refine callE_grow [2] 1 (clone_c (smK .str (loadM l))) rfl (fun v G h => by rw [h.2]; rfl) (by simp +decide) (by simp +decide -dsimp -implicitDefEqProofs [go_sem]) (by simp +decide -dsimp -implicitDefEqProofs [go_sem, hsr]) ?_
    rintro _ _ ⟨rfl, rfl⟩
    simp +decide -dsimp -implicitDefEqProofs [go_sem, hsr]
    refine endW_of ([.junk, .junk, .ptr 0 0] ++ List.replicate 49 .junk) (dbO (loadM l) (loadM l) []) (Wk.ren [0, 4, 2, 3] (by decide) rfl (by decide) (fun j hj => absurd hj (by simp)) (fun j m s l hj => absurd hj (by simp)) ?_ ?_) ?_
    · simp +decide -dsimp -implicitDefEqProofs [go_sem, dbO, dbB, mO_def, hsr, hn0]
    · simp +decide -dsimp -implicitDefEqProofs [go_sem, rnT]
    · simp +decide -dsimp -implicitDefEqProofs [go_sem, packR]
end Go.Ab
namespace Go.Ab
open Go Go.Proofs
def wholeP (m : TMap) (n : List UInt8) : Prop := ∃ x, soundB x = true ∧ encT x = (getS n m).getD [] ∧ entL x.path = n
theorem readOf_iff {m : TMap} {n : List UInt8} {r : Rcd} {b : Bool} (h : readOf m n r b) : b = true ↔ wholeP m n := by
  rcases h with ⟨x, h1, h2, h3, _, rfl⟩ | ⟨hno, _, rfl⟩
  · exact ⟨fun _ => ⟨x, h1, h2, h3⟩, fun _ => rfl⟩
  · exact ⟨by simp, fun ⟨x, h1, h2, h3⟩ => (hno x h1 h2 h3).elim⟩
open Classical in
noncomputable def dmgL (m : TMap) : List (List UInt8) := (srtK (ksS m)).filter fun n => !decide (wholeP m n)
theorem mem_dmg {m : TMap} (h : oneS' m) {n : List UInt8} : n ∈ dmgL m ↔ getS n m ≠ none ∧ ¬ wholeP m n := by
  unfold dmgL
  rw [List.mem_filter, srtK_mem, mem_ksS h]
  simp [Option.isSome_iff_ne_none]
set_option maxRecDepth 20000 in
set_option maxHeartbeats 4000000 in
theorem Damaged_c (dur seen : TMap) (pend : List Wr) {n : Nat} (hF : Fine seen n) (hn : n ≤ 100000) :
    ACalls Tryz.prog 29 [.ptr 0 0] (dbO dur seen pend) (.imm ((dmgL seen).map sRow)) (dbO dur seen pend) := by
  classical
  have hcl := wRows_cl
  have hwr := wRows_ren
  have hsr := smK_renS
  have hsc : ∀ (m : TMap) (k : Nat) (a b : AV), (a, b) ∈ smK .str m → closed k a = true ∧ closed k b = true := fun m k => smK_clm (k := k) fun _ => rfl
  have hss : ∀ (k : Nat) (l : List (List UInt8)), closedLL k (l.map sRow) = true := fun k l => closedLL_map fun _ _ => rfl
  have hkl : (srtK (ksS seen)).length ≤ seen.length := by rw [srtK_len]; exact List.length_filterMap_le _ _
  have hsl := hF.n
  have hs := sorted_c AV.str seen hF.o (fun x hx => Nat.le_trans (hF.k x hx) (by decide)) (by omega)
  have hread : ∀ k : List UInt8, ∃ r b, b = decide (wholeP seen k) ∧ ACalls Tryz.prog 49 [.ptr 0 0, .str k] (dbO dur seen pend) (recV r b) (dbO dur seen pend) := fun k => by
    obtain ⟨r, b, hr, cr⟩ := read_c dur seen pend k (by
      cases hg : getS k seen with
      | none => simp
      | some t => have := hF.tx _ _ hg; simp only [Option.getD_some]; omega)
    refine ⟨r, b, ?_, cr⟩
    have := readOf_iff hr
    cases b <;> simp_all
  have hdm : dmgL seen = (srtK (ksS seen)).filter fun n => !decide (wholeP seen n) := by unfold dmgL; congr
  rw [hdm]
  generalize srtK (ksS seen) = ks at hs hkl
  refine acalls_F c29_ok rfl ?_
  unfold c29
  unfold dbO dbB mO recV at hread
  unfold dbO dbB mO
  simp +decide -dsimp -implicitDefEqProofs [go_sem]
  refine callE_grow [2] 1 (keys_c AV.str seen) rfl (fun v G h => by rw [h.2]; rfl) (by simp +decide) (by simp +decide -dsimp -implicitDefEqProofs [go_sem]) (by simp +decide -dsimp -implicitDefEqProofs [go_sem, hsr]) ?_
  rintro _ _ ⟨rfl, rfl⟩
  simp +decide -dsimp -implicitDefEqProofs [go_sem, hsr]
  refine callE_grow [2, 4] 1 hs rfl (fun v G h => by rw [h.2]; rfl) (by simp +decide) (by simp +decide -dsimp -implicitDefEqProofs [go_sem]) (by simp +decide -dsimp -implicitDefEqProofs [go_sem, hsr]) ?_
  rintro _ _ ⟨rfl, rfl⟩
  have hkr : ∀ (is : List Nat) (l : List (List UInt8)), renLL is (l.map fun k => [AV.str k]) = l.map fun k => [AV.str k] := fun is l => renLL_sRows is l
  simp +decide -dsimp -implicitDefEqProofs [go_sem, hsr, hkr]
  refine loop_of (S := Nat) (fun i => ⟨tmps 33 [(0, .ptr 0 0), (3, .own 6 ((ks.take i).filter fun n => !decide (wholeP seen n)).length), (13, .own 5 ks.length), (14, .int .i64 ks.length), (15, .int .i64 i)], [.box 83 [.map 1, .map 2, .own 3 pend.length], .map (smK .str dur), .map (smK .str seen), .reg 88 1 (pend.map wRow), .box 80 [.map 2], .reg 9 1 (ks.map fun k => [.str k]), .reg 9 1 (((ks.take i).filter fun n => !decide (wholeP seen n)).map sRow)]⟩) (fun i => ks.length - i) (fun i => i ≤ ks.length) 0 (by simp) ((Wk.nilT 3 9 1 rfl (by simp)).trans (cut_of (by simp) ?_)) ?_
  · simp +decide -dsimp -implicitDefEqProofs [go_sem, hcl]
    (repeat' apply And.intro) <;> first | exact hsc _ _ | exact closedLL_map fun _ _ => rfl | rfl
  intro i hi
  by_cases h : i < ks.length
  · have w : IntKind.i64.wrap ((i : Int) + 1) = i + 1 := w64 (by omega) (by omega)
    obtain ⟨r, b, hb, cr⟩ := hread ks[i]
    have htk : (ks.take (i + 1)).filter (fun n => !decide (wholeP seen n)) = (ks.take i).filter (fun n => !decide (wholeP seen n)) ++ (if b = true then [] else [ks[i]]) := by
      rw [List.take_succ_eq_append_getElem h, List.filter_append]
      congr 1
      cases b <;> simp [← hb]
    have hfl : ((ks.take i).filter fun n => !decide (wholeP seen n)).length ≤ ks.length := Nat.le_trans (List.length_filter_le _ _) (by simp; omega)
    generalize (ks.take i).filter (fun n => !decide (wholeP seen n)) = fl at htk hfl
    simp +decide -dsimp -implicitDefEqProofs [go_sem, h]
    refine callE_frame [0, 1, 2, 3] cr rfl rfl (by simp) (by simp +decide -dsimp -implicitDefEqProofs [go_sem]) (by simp +decide -dsimp -implicitDefEqProofs [go_sem, hsr, hwr]) ?_
    cases b with
    | true =>
      simp +decide -dsimp -implicitDefEqProofs [go_sem, hsr, hwr, rRow_len, rRow_ren, w]
      refine next_of (i + 1) (by show i + 1 ≤ ks.length; omega) (by show ks.length - (i + 1) < ks.length - i; omega) (cut_of (by simp) ?_)
      rw [htk]
      simp +decide -dsimp -implicitDefEqProofs [go_sem, hcl, hss]
      (repeat' apply And.intro) <;> first | exact hsc _ _ | exact closedLL_map fun _ _ => rfl | rfl
    | false =>
      have ha : fl.map sRow ++ [[AV.str ks[i]]] = (fl ++ [ks[i]]).map sRow := by simp [sRow]
      simp +decide -dsimp -implicitDefEqProofs [go_sem, hsr, hwr, rRow_len, rRow_ren, w, maxLen]
      refine ⟨⟨by omega, by omega⟩, ?_⟩
      rw [ha]
      refine next_of (i + 1) (by show i + 1 ≤ ks.length; omega) (by show ks.length - (i + 1) < ks.length - i; omega) (cut_of (by simp) ?_)
      rw [htk]
      simp +decide -dsimp -implicitDefEqProofs [go_sem, hcl, hss]
      (repeat' apply And.intro) <;> first | exact hsc _ _ | exact closedLL_map fun _ _ => rfl | rfl
  · have e : i = ks.length := by omega
    subst e
    rw [List.take_length]
    simp +decide -dsimp -implicitDefEqProofs [go_sem, hcl, hss]
    exact ⟨hsc _ _, hsc _ _⟩
end Go.Ab
namespace Go.Ab
open Go Go.Proofs
set_option maxRecDepth 20000 in
set_option maxHeartbeats 2000000 in
theorem Clean_c (dur seen : TMap) (pend : List Wr) (nm : List UInt8) {n : Nat} (hF : Fine seen n) (hp : pend.length < 1000000) :
    (getS nm seen ≠ none ∧ ¬ wholeP seen nm → ACalls Tryz.prog 36 [.ptr 0 0, .str nm] (dbO dur seen pend) (.int .i64 0) (dbO dur (delS nm seen) (pend ++ [(nm, none)]))) ∧
    (getS nm seen = none ∨ wholeP seen nm → ACalls Tryz.prog 36 [.ptr 0 0, .str nm] (dbO dur seen pend) (.int .i64 262) (dbO dur seen pend)) := by
  have hcl := wRows_cl
  have hwr := wRows_ren
  have hsr := smK_renS
  have hsc : ∀ (m : TMap) (k : Nat) (a b : AV), (a, b) ∈ smK .str m → closed k a = true ∧ closed k b = true := fun m k => smK_clm (k := k) fun _ => rfl
  have h1 : ∀ (w : Wr) (is : List Nat), renLL is [wRow w] = [wRow w] := fun w is => wRows_ren is [w]
  obtain ⟨r, b, hr, cr⟩ := read_c dur seen pend nm (by
    cases hg : getS nm seen with
    | none => simp
    | some t => have := hF.tx _ _ hg; simp only [Option.getD_some]; omega)
  have hb := readOf_iff hr
  have cd := do_c dur seen pend (nm, none) hp
  have hk := keys_smK AV.str nm seen
  have hf := find_smK AV.str nm seen
  unfold recV dbO dbB mO at cr
  unfold dbO dbB mO at cd ⊢
  unfold wAV at cd
  refine ⟨fun ⟨h, hw⟩ => ?_, fun h => ?_⟩
  · obtain ⟨t, hg⟩ := Option.ne_none_iff_exists'.1 h
    rw [hg] at hf
    obtain rfl : b = false := by
      cases b with
      | false => rfl
      | true => exact (hw (hb.1 rfl)).elim
    refine acalls_F c36_ok rfl ?_
    unfold c36
    simp +decide -dsimp -implicitDefEqProofs [go_sem]
    refine callE_frame [0, 1, 2, 3] cr rfl rfl (by simp) (by simp +decide -dsimp -implicitDefEqProofs [go_sem]) (by simp +decide -dsimp -implicitDefEqProofs [go_sem, hsr, hwr]) ?_
    simp +decide -dsimp -implicitDefEqProofs [go_sem, hsr, hwr, rRow_len, rRow_ren, hk, hf]
    refine callE_frame [0, 1, 2, 3] cd rfl rfl (by simp) (by simp +decide -dsimp -implicitDefEqProofs [go_sem]) (by simp +decide -dsimp -implicitDefEqProofs [go_sem, hsr, hwr]) ?_
    simp +decide -dsimp -implicitDefEqProofs [go_sem, hsr, hwr, hcl, doW, h1]
    exact ⟨hsc _ _, hsc _ _, wRow_cl _ _⟩
  · refine acalls_F c36_ok rfl ?_
    unfold c36
    simp +decide -dsimp -implicitDefEqProofs [go_sem]
    refine callE_frame [0, 1, 2, 3] cr rfl rfl (by simp) (by simp +decide -dsimp -implicitDefEqProofs [go_sem]) (by simp +decide -dsimp -implicitDefEqProofs [go_sem, hsr, hwr]) ?_
    cases hg : getS nm seen with
    | none =>
      rw [hg] at hf
      simp +decide -dsimp -implicitDefEqProofs [go_sem, hsr, hwr, rRow_len, rRow_ren, hk, hf, hcl]
      exact ⟨hsc _ _, hsc _ _⟩
    | some t =>
      rw [hg] at hf
      obtain rfl : b = true := hb.2 (h.resolve_left (by simp [hg]))
      simp +decide -dsimp -implicitDefEqProofs [go_sem, hsr, hwr, rRow_len, rRow_ren, hk, hf, hcl]
      exact ⟨hsc _ _, hsc _ _⟩
end Go.Ab
namespace Go.Ab
open Go Go.Proofs
def AllW (m : TMap) : Prop := ∀ k t, getS k m = some t → ∃ r, soundB r = true ∧ entL r.path = k ∧ encT r = t
theorem AllW.nil : AllW [] := fun k t h => by simp [getS] at h
theorem AllW.put {m : TMap} (h : AllW m) {r : Rcd} (hS : soundB r = true) : AllW (setS (entL r.path) (encT r) m) := fun k t ht => by
  rw [get_set] at ht
  split at ht
  · rename_i e; cases ht; exact ⟨r, hS, e, rfl⟩
  · exact h k t ht
theorem ascR_nodup {l : List Rcd} (h : ascR l) : (l.map fun r => entL r.path).Nodup := by
  unfold List.Nodup
  rw [List.pairwise_map]
  refine h.imp fun {a b} hab e => ?_
  rw [ent_inj e] at hab
  simp only [cmpP, cmpL_lt] at hab
  exact List.lt_irrefl _ hab
theorem AllOf.len {m : TMap} {l : List Rcd} (h : AllOf m l) (ho : oneS' m) (hW : AllW m) : l.length = (entsL m).length := by
  have hp : (l.map fun r => entL r.path).Perm (ksS m) := (List.perm_ext_iff_of_nodup (ascR_nodup h.asc) (ksS_nodup ho)).2 fun k => by
    rw [mem_ksS ho, List.mem_map]
    constructor
    · rintro ⟨r, hr, rfl⟩
      rw [((h.mem r).1 hr).2]; rfl
    · intro hk
      obtain ⟨t, ht⟩ := Option.isSome_iff_exists.1 hk
      obtain ⟨r, h1, h2, h3⟩ := hW k t ht
      exact ⟨r, (h.mem r).2 ⟨h1, by rw [h2, h3]; exact ht⟩, h2⟩
  have := hp.length_eq
  rw [List.length_map] at this
  unfold entsL
  rw [List.length_map, srtK_len, this]
theorem mem_ents {m : TMap} (ho : oneS' m) {k t : List UInt8} : (k, t) ∈ entsL m ↔ getS k m = some t := by
  unfold entsL
  rw [List.mem_map]
  constructor
  · rintro ⟨x, hx, e⟩
    rw [srtK_mem, mem_ksS ho] at hx
    obtain ⟨u, hu⟩ := Option.isSome_iff_exists.1 hx
    simp only [Prod.mk.injEq] at e
    obtain ⟨rfl, rfl⟩ := e
    rw [hu]; rfl
  · intro h
    exact ⟨k, by rw [srtK_mem, mem_ksS ho, h]; rfl, by rw [h]; rfl⟩
end Go.Ab
