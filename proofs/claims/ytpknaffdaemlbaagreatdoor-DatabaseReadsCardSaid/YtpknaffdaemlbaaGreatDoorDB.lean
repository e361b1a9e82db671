/- maps.Clone at the database's entries; the writes. -/
import Derived.Test.YtpknaffdaemlbaaGreatDoorCX
import Derived.Test.YtpknaffdaemlbaaGreatDoorW1
import Derived.Test.YtpknaffdaemlbaaGreatDoorA5
import Derived.Shelf.SlMaps.Clone
import Derived.Test.YtpknaffdaemlbaaGreatDoorW4
import Derived.Test.YtpknaffdaemlbaaGreatDoorE1
import Derived.Test.YtpknaffdaemlbaaGreatDoorW8
namespace Go.Ab
open Go Go.Proofs
set_option maxRecDepth 100000 in
set_option maxHeartbeats 2000000 in
theorem mapsClone_run (b : Nat) (es : Array MapEntry) (clock : Nat) (w : World) (hb : w.heap[b]? = some (.map es clock)) :
    Calls Tryz.prog 43 #[.map (some b)] w fun e w' => e = .returned (.map (some w.heap.size)) ∧ w' = w.alloc (.map es clock) := by
  have hq := fun w => run_eql_map_nil_sl (P := Tryz.prog) w 80 _ _ (some b) Tryz.underlying80
  go_enter Tryz.func43, Tryz.ntmps43
  go_wp2
  rw [run_callFunc_extern Tryz.func83 (by kernel_rfl) (by kernel_rfl) (by kernel_rfl) (e := Extern.MapsClone.clone) (by kernel_rfl), run_maps_clone_sl w 80 hb]
  simp only [Result.andThen]
  rw [Oper.upon_value]
  go_wp2
  rw [run_typeAssert_map_sl _ 80 20 _ _ _ Tryz.underlying80]
  simp only [Result.andThen]
  rw [Oper.upon_value]
  go_wp2
  go_ret
  exact ⟨rfl, rfl⟩
theorem bodied43 : bodied Tryz.prog 43 = true := by kernel_rfl
theorem clone_c (kvs : List (AV × AV)) : ACallsR Tryz.prog 43 [.map 0] [.map kvs] (fun v G => v = .map 1 ∧ G = [.map kvs, .map kvs]) := by
  refine ⟨bodied43, fun c vs hH hr hv => ?_⟩
  simp only [Vals, Val] at hv
  obtain ⟨v, vs', rfl, ⟨kvs', r, h1, h2, rfl⟩, rfl⟩ := hv
  obtain ⟨r', es, h3, h4, h5⟩ := hr.obj 0 (.map kvs) (by rw [hH]; rfl)
  rw [h2] at h3; simp at h3; subst h3
  refine (mapsClone_run r es kvs.length c.w h4).mono fun e w' hq => ?_
  obtain ⟨rfl, rfl⟩ := hq
  obtain ⟨hr1, hE1⟩ := rel_push hr
  have hμl : c.μ.length = 1 := by rw [hr.len, hH]; rfl
  have hN := rel_new (c := { c with μ := c.μ ++ [.pointer none], H := c.H ++ [.unborn] }) hr1 (nid := 1) (x' := .map kvs) (v' := .map (some c.w.heap.size)) (.map es kvs.length) (by show (c.H ++ [AObj.unborn])[1]? = _; rw [hH]; rfl) (fun b hb => by simpa [blk] using hb.symm) (fun F hE hm =>
    ⟨c.w.heap.size, es, hm, alloc_new c.w _, Kvs_ext hE _ _ _ (Kvs_ext (hE1.vext hr) _ _ _ h5)⟩)
  refine ⟨_, _, .map 1, rfl, rfl, ⟨rfl, ?_⟩, hN.1, hE1.trans hN.2, ?_⟩
  · show (c.H ++ [AObj.unborn]).set 1 _ = _
    rw [hH]; rfl
  · simp only [Val]
    refine ⟨kvs, c.w.heap.size, ?_, ?_, rfl⟩
    · show ((c.H ++ [AObj.unborn]).set 1 _)[1]? = _
      rw [hH]; rfl
    · show ((c.μ ++ [Value.pointer none]).set 1 _)[1]? = _
      have : 1 < (c.μ ++ [Value.pointer none]).length := by simp [hμl]
      rw [List.getElem?_set_self this]

/-! ### Writes -/
abbrev Wr := List UInt8 × Option (List UInt8)
def wAV (w : Wr) : AV := match w.2 with
  | some t => .fn (.func 48) [.agg [.str w.1, .str t]] []
  | none => .fn (.func 46) [.agg [.str w.1, .str []]] []
def wRow (w : Wr) : List AV := [wAV w]
abbrev TMap := SMap (List UInt8)
def doW (m : TMap) (w : Wr) : TMap := match w.2 with
  | some t => setS w.1 t m
  | none => delS w.1 m
def mO (m : TMap) : AObj := .map (smK .str m)
def dbB (a b o n : Nat) : AObj := .box 83 [.map a, .map b, .own o n]
def dbO (dur seen : TMap) (pend : List Wr) : List AObj := [dbB 1 2 3 pend.length, mO dur, mO seen, .reg 88 1 (pend.map wRow)]
theorem wAV_ren (is : List Nat) (w : Wr) : ren is (wAV w) = wAV w := by unfold wAV; split <;> simp [ren, renL]
theorem wAV_cl (k : Nat) (w : Wr) : closed k (wAV w) = true := by unfold wAV; split <;> simp [closed, closedL]
theorem wRow_cl (k : Nat) (w : Wr) : closedL k (wRow w) = true := by simp [wRow, closedL, wAV_cl]
theorem wRows_cl (k : Nat) (l : List Wr) : closedLL k (l.map wRow) = true := closedLL_map fun x _ => wRow_cl k x
theorem wRows_ren (is : List Nat) (l : List Wr) : renLL is (l.map wRow) = l.map wRow := by
  induction l with
  | nil => rfl
  | cons x l ih => simp [renLL, ih, wRow, renL, wAV_ren]
theorem smK_ren (is : List Nat) {β : Type} (f : β → AV) (hf : ∀ x, ren is (f x) = f x) (m : SMap β) : renKv is (smK f m) = smK f m := by
  rw [renKv_map]
  simp only [smK, List.map_map]
  refine List.map_congr_left fun o _ => ?_
  cases o with
  | none => rfl
  | some p => simp [kvRow, ren, hf]
theorem mO_ren (is : List Nat) (m : TMap) : renO is (mO m) = mO m := by
  simp only [mO, renO, smK_ren is .str (fun _ => rfl)]
theorem smK_cl {β : Type} (k : Nat) (f : β → AV) (hf : ∀ x, closed k (f x) = true) (m : SMap β) : ((smK f m).all fun p => closed k p.1 && closed k p.2) = true := by
  refine List.all_eq_true.2 fun p hp => ?_
  obtain ⟨o, _, rfl⟩ := List.mem_map.1 hp
  cases o with
  | none => rfl
  | some q => simp [kvRow, closed, hf]
theorem smK_clm {β : Type} {k : Nat} {f : β → AV} (hf : ∀ x, closed k (f x) = true) {m : SMap β} : ∀ a b : AV, (a, b) ∈ smK f m → closed k a = true ∧ closed k b = true := fun a b h => by
  have := List.all_eq_true.1 (smK_cl k f hf m) (a, b) h
  simpa using this
theorem put_c (n t : List UInt8) (m : TMap) : ACalls Tryz.prog 48 [.agg [.str n, .str t], .map 0] [mO m] (.tup []) [mO (setS n t m)] := by
  have hk := keys_smK .str n m
  refine acalls_F c48_ok rfl ?_
  unfold c48 mO
  simp +decide -dsimp -implicitDefEqProofs [go_sem, hk, set_smK]
  exact smK_clm fun _ => rfl
theorem drop_c (n : List UInt8) (m : TMap) : ACalls Tryz.prog 46 [.agg [.str n, .str []], .map 0] [mO m] (.tup []) [mO (delS n m)] := by
  have hk := keys_smK .str n m
  refine acalls_F c46_ok rfl ?_
  unfold c46 mO
  simp +decide -dsimp -implicitDefEqProofs [go_sem, hk, del_smK]
  exact smK_clm fun _ => rfl
end Go.Ab
namespace Go.Ab
open Go Go.Proofs
theorem mO_def (m : TMap) : mO m = .map (smK .str m) := rfl
set_option maxRecDepth 20000 in
theorem do_c (dur seen : TMap) (pend : List Wr) (w : Wr) (hp : pend.length < 1000000) : ACalls Tryz.prog 45 [.ptr 0 0, wAV w] (dbO dur seen pend) (.int .i64 0) (dbO dur (doW seen w) (pend ++ [w])) := by
  have hcl := wRows_cl
  have hsc : ∀ (m : TMap) (k : Nat) (a b : AV), (a, b) ∈ smK .str m → closed k a = true ∧ closed k b = true := fun m k => smK_clm (k := k) fun _ => rfl
  have hr : List.map wRow pend ++ [[wAV w]] = (pend ++ [w]).map wRow := by simp [wRow]
  obtain ⟨n, o⟩ := w
  cases o with
  | some t =>
    refine acalls_F c45_ok rfl ?_
    unfold c45 dbO dbB
    unfold wAV at hr ⊢
    simp +decide -dsimp -implicitDefEqProofs [go_sem]
    refine callE_frame [2] (put_c n t seen) rfl rfl (by simp) (by simp +decide -dsimp -implicitDefEqProofs [go_sem]) (by simp +decide -dsimp -implicitDefEqProofs [go_sem, mO_ren]) ?_
    simp +decide -dsimp -implicitDefEqProofs [go_sem, mO_ren, maxLen]
    refine ⟨⟨by omega, by omega⟩, ?_⟩
    rw [hr]
    simp +decide -dsimp -implicitDefEqProofs [go_sem, hcl, doW, mO_def]
    exact ⟨hsc _ _, hsc _ _, rfl⟩
  | none =>
    refine acalls_F c45_ok rfl ?_
    unfold c45 dbO dbB
    unfold wAV at hr ⊢
    simp +decide -dsimp -implicitDefEqProofs [go_sem]
    refine callE_frame [2] (drop_c n seen) rfl rfl (by simp) (by simp +decide -dsimp -implicitDefEqProofs [go_sem]) (by simp +decide -dsimp -implicitDefEqProofs [go_sem, mO_ren]) ?_
    simp +decide -dsimp -implicitDefEqProofs [go_sem, mO_ren, maxLen]
    refine ⟨⟨by omega, by omega⟩, ?_⟩
    rw [hr]
    simp +decide -dsimp -implicitDefEqProofs [go_sem, hcl, doW, mO_def]
    exact ⟨hsc _ _, hsc _ _, rfl⟩

theorem new_c : ACallsR Tryz.prog 12 [] [] (fun v G => v = .ptr 0 0 ∧ G = dbO [] [] []) := by
  refine acalls_W _ c12_ok ?_
  unfold c12
  simp +decide -dsimp -implicitDefEqProofs [go_sem]
  refine endW_of [.ptr 0 0, .junk, .junk, .junk, .junk] (dbO [] [] []) (Wk.trans (Wk.nilB 2 2 88 1 rfl rfl (by simp)) (Wk.ren [2, 0, 1, 3] (by decide) rfl (by decide) (fun j hj => by omega) (fun j m s l hj => by omega) ?_ ?_)) ?_
  · simp +decide -dsimp -implicitDefEqProofs [go_sem, dbO, dbB, mO_def, smK]
  · simp +decide -dsimp -implicitDefEqProofs [go_sem, rnT]
  · simp +decide -dsimp -implicitDefEqProofs [go_sem, packR]

theorem sync_c (dur seen : TMap) (pend : List Wr) : ACallsR Tryz.prog 14 [.ptr 0 0] (dbO dur seen pend) (fun v G => v = .tup [] ∧ G = [dbB 4 2 5 0, mO dur, mO seen, .reg 88 1 (pend.map wRow), mO seen, .reg 88 1 []]) := by
  refine acalls_W _ c14_ok ?_
  unfold c14 dbO dbB
  simp +decide -dsimp -implicitDefEqProofs [go_sem]
  refine callE_grow [2] 1 (clone_c (smK .str seen)) rfl (fun v G h => by rw [h.2]; rfl) (by simp +decide) (by simp +decide -dsimp -implicitDefEqProofs [go_sem]) (by simp +decide -dsimp -implicitDefEqProofs [go_sem, mO_def]; exact (smK_ren _ .str (fun _ => rfl) _).symm) ?_
  rintro _ _ ⟨rfl, rfl⟩
  have hsr : ∀ is (m : TMap), renKv is (smK .str m) = smK .str m := fun is m => smK_ren is .str (fun _ => rfl) m
  simp +decide -dsimp -implicitDefEqProofs [go_sem, hsr]
  refine endW_of (List.replicate 13 .junk) [dbB 4 2 5 0, mO dur, mO seen, .reg 88 1 (pend.map wRow), mO seen, .reg 88 1 []] (Wk.trans (Wk.nilB 0 2 88 1 rfl rfl (by simp)) (Wk.ren [0, 1, 2, 3, 4, 5] (by decide) rfl (by decide) (fun j hj => ?_) (fun j m s l hj h => ?_) ?_ ?_)) ?_
  · match j, hj with
    | 0, _ => rfl
    | 1, _ => rfl
    | 2, _ => rfl
    | 3, _ => rfl
  · match j, hj with
    | 0, _ => cases h
    | 1, _ => cases h
    | 2, _ => cases h
    | 3, _ => cases h
  · simp +decide -dsimp -implicitDefEqProofs [go_sem, dbB, wRows_ren, mO_def, hsr]
  · simp +decide -dsimp -implicitDefEqProofs [go_sem, rnT]
  · simp +decide -dsimp -implicitDefEqProofs [go_sem, packR, dbB]
end Go.Ab
namespace Go.Ab
open Go Go.Proofs
theorem smK_renS (is : List Nat) (m : TMap) : renKv is (smK .str m) = smK .str m := smK_ren is .str (fun _ => rfl) m
set_option maxRecDepth 20000 in
set_option maxHeartbeats 2000000 in
theorem Put_c (dur seen : TMap) (pend : List Wr) (r : Rcd) (hS : soundB r = true) (hp : pend.length < 1000000) (hc : cntS seen < 512) :
    ACalls Tryz.prog 18 [.ptr 0 0, .agg (rRow r)] (dbO dur seen pend) (.int .i64 0) (dbO dur (setS (entL r.path) (encT r) seen) (pend ++ [(entL r.path, some (encT r))])) := by
  have hsm := small_of hS
  have ce := Encode_c r hsm.few
  rw [(chk_ok hS).1, (chk_ok hS).2] at ce
  have cn := Entry_c r.path (by have := hsm.path; omega)
  have hpl : placeB r.path = true := by
    simp only [soundB, Bool.and_eq_true] at hS
    exact hS.1.1.1.1.1.1.1.1.1.1.1
  unfold entV at cn
  simp only [hpl, if_true] at cn
  have cd := do_c dur seen pend (entL r.path, some (encT r)) hp
  have hk := keys_smK .str (entL r.path) seen
  have hf := find_smK AV.str (entL r.path) seen
  have hl := live_smK AV.str seen
  have hcl := wRows_cl
  have h1 : ∀ (w : Wr) (is : List Nat), renLL is [wRow w] = [wRow w] := fun w is => wRows_ren is [w]
  have h2 : ∀ (w : Wr) (k : Nat), closedLL k [wRow w] = true := fun w k => wRows_cl k [w]
  have hsc : ∀ (m : TMap) (k : Nat) (a b : AV), (a, b) ∈ smK .str m → closed k a = true ∧ closed k b = true := fun m k => smK_clm (k := k) fun _ => rfl
  have hlt : ¬ (512 : Int) ≤ (cntS seen : Int) := by omega
  refine acalls_F c18_ok rfl ?_
  unfold c18
  unfold dbO dbB mO at cd ⊢
  unfold wAV at cd
  simp +decide -dsimp -implicitDefEqProofs [go_sem, rRow_len, rRow_take]
  refine callE_pure ce (by simp +decide -dsimp -implicitDefEqProofs [go_sem, rRow_cl]) rfl ?_
  unfold rRow
  simp +decide -dsimp -implicitDefEqProofs [go_sem]
  refine callE_pure cn rfl rfl ?_
  cases hg : getS (entL r.path) seen with
  | none =>
    rw [hg] at hf
    simp +decide -dsimp -implicitDefEqProofs [go_sem, hk, hf, hl, hlt]
    refine callE_frame [0, 1, 2, 3] cd rfl rfl (by simp) (by simp +decide -dsimp -implicitDefEqProofs [go_sem]) (by simp +decide -dsimp -implicitDefEqProofs [go_sem, smK_renS, wRows_ren]) ?_
    simp +decide -dsimp -implicitDefEqProofs [go_sem, smK_renS, wRows_ren, hcl, doW, h1]
    exact ⟨hsc _ _, hsc _ _, wRow_cl _ _⟩
  | some t =>
    rw [hg] at hf
    simp +decide -dsimp -implicitDefEqProofs [go_sem, hk, hf]
    refine callE_frame [0, 1, 2, 3] cd rfl rfl (by simp) (by simp +decide -dsimp -implicitDefEqProofs [go_sem]) (by simp +decide -dsimp -implicitDefEqProofs [go_sem, smK_renS, wRows_ren]) ?_
    simp +decide -dsimp -implicitDefEqProofs [go_sem, smK_renS, wRows_ren, hcl, doW, h1]
    exact ⟨hsc _ _, hsc _ _, wRow_cl _ _⟩

set_option maxRecDepth 20000 in
set_option maxHeartbeats 2000000 in
theorem Delete_c (dur seen : TMap) (pend : List Wr) (p : List UInt8) (hpl : placeB p = true) (hpn : p.length ≤ 400000) (hp : pend.length < 1000000) :
    (getS (entL p) seen ≠ none → ACalls Tryz.prog 16 [.ptr 0 0, .str p] (dbO dur seen pend) (.int .i64 0) (dbO dur (delS (entL p) seen) (pend ++ [(entL p, none)]))) ∧
    (getS (entL p) seen = none → ACalls Tryz.prog 16 [.ptr 0 0, .str p] (dbO dur seen pend) (.int .i64 262) (dbO dur seen pend)) := by
  have cn := Entry_c p hpn
  unfold entV at cn
  simp only [hpl, if_true] at cn
  have cd := do_c dur seen pend (entL p, none) hp
  have hk := keys_smK .str (entL p) seen
  have hf := find_smK AV.str (entL p) seen
  have hcl := wRows_cl
  have h1 : ∀ (w : Wr) (is : List Nat), renLL is [wRow w] = [wRow w] := fun w is => wRows_ren is [w]
  have h2 : ∀ (w : Wr) (k : Nat), closedLL k [wRow w] = true := fun w k => wRows_cl k [w]
  have hsc : ∀ (m : TMap) (k : Nat) (a b : AV), (a, b) ∈ smK .str m → closed k a = true ∧ closed k b = true := fun m k => smK_clm (k := k) fun _ => rfl
  unfold dbO dbB mO at cd ⊢
  unfold wAV at cd
  refine ⟨fun h => ?_, fun h => ?_⟩
  · obtain ⟨t, hg⟩ := Option.ne_none_iff_exists'.1 h
    rw [hg] at hf
    refine acalls_F c16_ok rfl ?_
    unfold c16
    simp +decide -dsimp -implicitDefEqProofs [go_sem]
    refine callE_pure cn rfl rfl ?_
    simp +decide -dsimp -implicitDefEqProofs [go_sem, hk, hf]
    refine callE_frame [0, 1, 2, 3] cd rfl rfl (by simp) (by simp +decide -dsimp -implicitDefEqProofs [go_sem]) (by simp +decide -dsimp -implicitDefEqProofs [go_sem, smK_renS, wRows_ren]) ?_
    simp +decide -dsimp -implicitDefEqProofs [go_sem, smK_renS, wRows_ren, hcl, doW, h1]
    exact ⟨hsc _ _, hsc _ _, wRow_cl _ _⟩
  · rw [h] at hf
    refine acalls_F c16_ok rfl ?_
    unfold c16
    simp +decide -dsimp -implicitDefEqProofs [go_sem]
    refine callE_pure cn rfl rfl ?_
    simp +decide -dsimp -implicitDefEqProofs [go_sem, hk, hf, hcl]
    exact ⟨hsc _ _, hsc _ _⟩
end Go.Ab
namespace Go.Ab
open Go Go.Proofs
def foldW (m : TMap) (l : List Wr) : TMap := l.foldl doW m
def keepN (keep : Int) (n : Nat) : Nat := min keep.toNat n
theorem keep_eq (keep : Int) (n : Nat) : (if (n : Int) < (if keep < 0 then 0 else keep) then (n : Int) else (if keep < 0 then 0 else keep)) = ((keepN keep n : Nat) : Int) := by
  unfold keepN
  repeat' split
  all_goals omega
set_option maxRecDepth 20000 in
set_option maxHeartbeats 2000000 in
theorem crash_c (dur seen : TMap) (pend : List Wr) (keep : Int) (hp : pend.length < 1000000) :
    ACallsR Tryz.prog 19 [.ptr 0 0, .int .i64 keep] (dbO dur seen pend) (fun v G => v = .tup [] ∧ G = [dbB 1 4 5 0, mO (foldW dur (pend.take (keepN keep pend.length))), mO seen, .reg 88 1 (pend.map wRow), mO (foldW dur (pend.take (keepN keep pend.length))), .reg 88 1 []]) := by
  have hkk := keep_eq keep pend.length
  obtain ⟨kk, hk⟩ : ∃ kk, kk = keepN keep pend.length := ⟨_, rfl⟩
  rw [← hk] at hkk ⊢
  have hkn : kk ≤ pend.length := by rw [hk]; unfold keepN; omega
  have hcl := wRows_cl
  have hsc : ∀ (m : TMap) (k : Nat) (a b : AV), (a, b) ∈ smK .str m → closed k a = true ∧ closed k b = true := fun m k => smK_clm (k := k) fun _ => rfl
  refine acalls_W _ c19_ok ?_
  unfold c19 dbO dbB mO
  simp +decide -dsimp -implicitDefEqProofs [go_sem, hkk, hkn]
  refine loop_of (S := Nat) (fun i => ⟨tmps 42 [(0, .ptr 0 0), (18, .pre 3 0 kk pend.length), (19, .int .i64 kk), (20, .int .i64 i)], [dbB 1 2 3 pend.length, mO (foldW dur (pend.take i)), mO seen, .reg 88 1 (pend.map wRow)]⟩) (fun i => kk - i) (fun i => i ≤ kk) 0 (by simp) (cut_of (by simp) ?_) ?_
  · simp +decide -dsimp -implicitDefEqProofs [go_sem, dbB, mO_def, hcl, foldW]
    exact ⟨hsc _ _, hsc _ _⟩
  intro i hi
  by_cases h : i < kk
  · have w : IntKind.i64.wrap ((i : Int) + 1) = i + 1 := w64 (by omega) (by omega)
    have hil : i < pend.length := by omega
    have hai : pend[i]? = some pend[i] := List.getElem?_eq_getElem hil
    have hnx : foldW dur (pend.take (i + 1)) = doW (foldW dur (pend.take i)) pend[i] := by
      unfold foldW; rw [List.take_succ_eq_append_getElem hil, List.foldl_append]; rfl
    generalize pend[i] = wr at hai hnx
    obtain ⟨n, o⟩ := wr
    cases o with
    | some t =>
      have cd := put_c n t (foldW dur (pend.take i))
      unfold mO at cd
      simp +decide -dsimp -implicitDefEqProofs [go_sem, dbB, mO_def, h, hai, wRow, wAV]
      refine callE_frame [1] cd rfl rfl (by simp) (by simp +decide -dsimp -implicitDefEqProofs [go_sem]) (by simp +decide -dsimp -implicitDefEqProofs [go_sem, smK_renS]) ?_
      simp +decide -dsimp -implicitDefEqProofs [go_sem, smK_renS, w]
      refine next_of (i + 1) (by show i + 1 ≤ kk; omega) (by show kk - (i + 1) < kk - i; omega) (cut_of (by simp) ?_)
      rw [hnx]
      simp +decide -dsimp -implicitDefEqProofs [go_sem, dbB, mO_def, hcl, doW]
      exact ⟨hsc _ _, hsc _ _⟩
    | none =>
      have cd := drop_c n (foldW dur (pend.take i))
      unfold mO at cd
      simp +decide -dsimp -implicitDefEqProofs [go_sem, dbB, mO_def, h, hai, wRow, wAV]
      refine callE_frame [1] cd rfl rfl (by simp) (by simp +decide -dsimp -implicitDefEqProofs [go_sem]) (by simp +decide -dsimp -implicitDefEqProofs [go_sem, smK_renS]) ?_
      simp +decide -dsimp -implicitDefEqProofs [go_sem, smK_renS, w]
      refine next_of (i + 1) (by show i + 1 ≤ kk; omega) (by show kk - (i + 1) < kk - i; omega) (cut_of (by simp) ?_)
      rw [hnx]
      simp +decide -dsimp -implicitDefEqProofs [go_sem, dbB, mO_def, hcl, doW]
      exact ⟨hsc _ _, hsc _ _⟩
  · have e : i = kk := by omega
    subst e
    simp +decide -dsimp -implicitDefEqProofs [go_sem, dbB, mO_def]
    refine callE_grow [1] 1 (clone_c (smK .str (foldW dur (pend.take i)))) rfl (fun v G h => by rw [h.2]; rfl) (by simp +decide) (by simp +decide -dsimp -implicitDefEqProofs [go_sem]) (by simp +decide -dsimp -implicitDefEqProofs [go_sem, smK_renS]) ?_
    rintro _ _ ⟨rfl, rfl⟩
    simp +decide -dsimp -implicitDefEqProofs [go_sem, smK_renS]
    refine endW_of (List.replicate 42 .junk) [dbB 1 4 5 0, mO (foldW dur (pend.take i)), mO seen, .reg 88 1 (pend.map wRow), mO (foldW dur (pend.take i)), .reg 88 1 []] (Wk.trans (Wk.nilB 0 2 88 1 rfl rfl (by simp)) (Wk.ren [0, 1, 2, 3, 4, 5] (by decide) rfl (by decide) (fun j hj => ?_) (fun j m s l hj h => ?_) ?_ ?_)) ?_
    · match j, hj with
      | 0, _ => rfl
      | 1, _ => rfl
      | 2, _ => rfl
      | 3, _ => rfl
    · match j, hj with
      | 0, _ => cases h
      | 1, _ => cases h
      | 2, _ => cases h
      | 3, _ => cases h
    · simp +decide -dsimp -implicitDefEqProofs [go_sem, dbB, wRows_ren, mO_def, smK_renS]
    · simp +decide -dsimp -implicitDefEqProofs [go_sem, rnT]
    · simp +decide -dsimp -implicitDefEqProofs [go_sem, packR, dbB, mO_def]
end Go.Ab
namespace Go.Ab
open Go Go.Proofs
def recV (r : Rcd) (b : Bool) : AV := .tup [.agg (rRow r), .bool b]
def readOf (m : TMap) (n : List UInt8) (r : Rcd) (b : Bool) : Prop :=
  (∃ x, soundB x = true ∧ encT x = (getS n m).getD [] ∧ entL x.path = n ∧ r = x ∧ b = true) ∨ ((∀ x, soundB x = true → encT x = (getS n m).getD [] → ¬ entL x.path = n) ∧ r = nil0 ∧ b = false)
theorem nil0_row : rRow nil0 = [.str [], .int .i64 0, .imm [], .imm [], .imm [], .imm [], .imm [], .str [], .int .i64 0, .str [], .str [], .int .i64 0] := by simp [rRow, nil0]
set_option maxRecDepth 20000 in
set_option maxHeartbeats 2000000 in
theorem read_c (dur seen : TMap) (pend : List Wr) (n : List UInt8) (hl : ((getS n seen).getD []).length < 50000000) :
    ∃ r b, readOf seen n r b ∧ ACalls Tryz.prog 49 [.ptr 0 0, .str n] (dbO dur seen pend) (recV r b) (dbO dur seen pend) := by
  have hk := keys_smK .str n seen
  have hf := find_smK AV.str n seen
  have hcl := wRows_cl
  have hsc : ∀ (m : TMap) (k : Nat) (a b : AV), (a, b) ∈ smK .str m → closed k a = true ∧ closed k b = true := fun m k => smK_clm (k := k) fun _ => rfl
  have hg : ((getS n seen).map AV.str).getD (.str []) = .str ((getS n seen).getD []) := by cases getS n seen <;> rfl
  have cd := Decode_c ((getS n seen).getD []) hl
  unfold dbO dbB mO
  rcases decV_form ((getS n seen).getD []) with ⟨x, hx, hxe, hv⟩ | ⟨hno, hv⟩
  · rw [hv] at cd
    have hpl : placeB x.path = true := by
      simp only [soundB, Bool.and_eq_true] at hx
      exact hx.1.1.1.1.1.1.1.1.1.1.1
    have cn := Entry_c x.path (by have := (small_of hx).path; omega)
    unfold entV at cn
    simp only [hpl, if_true] at cn
    have hun : ∀ y, soundB y = true → encT y = (getS n seen).getD [] → y = x := fun y hy he => enc_inj hy hx (he.trans hxe.symm)
    by_cases he : entL x.path = n
    · refine ⟨x, true, .inl ⟨x, hx, hxe, he, rfl, rfl⟩, ?_⟩
      refine acalls_F c49_ok rfl ?_
      unfold c49
      simp +decide -dsimp -implicitDefEqProofs [go_sem, hk, hf, hg]
      refine callE_pure cd rfl (by simp +decide -dsimp -implicitDefEqProofs [go_sem, rRow_cl]) ?_
      unfold recV
      unfold rRow
      simp +decide -dsimp -implicitDefEqProofs [go_sem]
      refine callE_pure cn rfl rfl ?_
      simp +decide -dsimp -implicitDefEqProofs [go_sem, he, hcl]
      exact ⟨hsc _ _, hsc _ _⟩
    · refine ⟨nil0, false, .inr ⟨fun y hy hye hp => he (hun y hy hye ▸ hp), rfl, rfl⟩, ?_⟩
      refine acalls_F c49_ok rfl ?_
      unfold c49
      simp +decide -dsimp -implicitDefEqProofs [go_sem, hk, hf, hg]
      refine callE_pure cd rfl (by simp +decide -dsimp -implicitDefEqProofs [go_sem, rRow_cl]) ?_
      unfold recV
      rw [nil0_row]
      unfold rRow
      simp +decide -dsimp -implicitDefEqProofs [go_sem]
      refine callE_pure cn rfl rfl ?_
      simp +decide -dsimp -implicitDefEqProofs [go_sem, he, hcl]
      exact ⟨hsc _ _, hsc _ _⟩
  · rw [hv] at cd
    refine ⟨nil0, false, .inr ⟨fun y hy hye _ => hno ⟨y, hy, hye⟩, rfl, rfl⟩, ?_⟩
    refine acalls_F c49_ok rfl ?_
    unfold c49
    simp +decide -dsimp -implicitDefEqProofs [go_sem, hk, hf, hg]
    refine callE_pure cd rfl (by simp +decide -dsimp -implicitDefEqProofs [go_sem]) ?_
    unfold recV
    rw [nil0_row]
    simp +decide -dsimp -implicitDefEqProofs [go_sem, hcl]
    exact ⟨hsc _ _, hsc _ _⟩
set_option maxRecDepth 20000 in
theorem Get_c (dur seen : TMap) (pend : List Wr) (p : List UInt8) (hpl : placeB p = true) (hpn : p.length ≤ 400000) (hl : ((getS (entL p) seen).getD []).length < 50000000) :
    ∃ r b, readOf seen (entL p) r b ∧ ACalls Tryz.prog 20 [.ptr 0 0, .str p] (dbO dur seen pend) (recV r b) (dbO dur seen pend) := by
  have hcl := wRows_cl
  have hsc : ∀ (m : TMap) (k : Nat) (a b : AV), (a, b) ∈ smK .str m → closed k a = true ∧ closed k b = true := fun m k => smK_clm (k := k) fun _ => rfl
  obtain ⟨r, b, h1, cr⟩ := read_c dur seen pend (entL p) hl
  have cn := Entry_c p hpn
  unfold entV at cn
  simp only [hpl, if_true] at cn
  refine ⟨r, b, h1, ?_⟩
  refine acalls_F c20_ok rfl ?_
  unfold c20
  unfold recV at cr ⊢
  unfold dbO dbB mO at cr ⊢
  simp +decide -dsimp -implicitDefEqProofs [go_sem]
  refine callE_pure cn rfl rfl ?_
  simp +decide -dsimp -implicitDefEqProofs [go_sem]
  refine callE_frame [0, 1, 2, 3] cr rfl rfl (by simp) (by simp +decide -dsimp -implicitDefEqProofs [go_sem]) (by simp +decide -dsimp -implicitDefEqProofs [go_sem, smK_renS, wRows_ren]) ?_
  unfold rRow
  simp +decide -dsimp -implicitDefEqProofs [go_sem, smK_renS, wRows_ren, renLL_sRows, renLL_aRows, hcl]
  exact ⟨hsc _ _, hsc _ _⟩
end Go.Ab
namespace Go.Ab
open Go Go.Proofs
def hexD (a b : UInt8) : UInt8 := UInt8.ofNat (16 * (hexL.idxOf a) + hexL.idxOf b)
theorem ent_inj {a b : List UInt8} (h : entL a = entL b) : a = b := by
  have f : ∀ c : UInt8, hexD (hexB (c.toNat / 16)) (hexB (c.toNat % 16)) = c := by
    intro c
    have key : ∀ n : Nat, n < 256 → hexD (hexB (n / 16)) (hexB (n % 16)) = UInt8.ofNat n := by decide +kernel
    have := key c.toNat (UInt8.toNat_lt c)
    rwa [UInt8.ofNat_toNat] at this
  rw [← unesc_ent hexD f a, h, unesc_ent hexD f b]
theorem get_doW {m : TMap} (h : oneS' m) (w : Wr) (k : List UInt8) : getS k (doW m w) = if w.1 = k then w.2 else getS k m := by
  obtain ⟨n, o⟩ := w
  cases o with
  | some t => simp only [doW]; rw [get_set]
  | none => simp only [doW]; rw [get_del _ _ h]
theorem one_doW {m : TMap} (h : oneS' m) (w : Wr) : oneS' (doW m w) := by
  obtain ⟨n, o⟩ := w
  cases o with
  | some t => exact one_set _ _ h
  | none => exact one_del _ h
theorem one_fold : ∀ (l : List Wr) {m : TMap}, oneS' m → oneS' (foldW m l)
  | [], _, h => h
  | w :: r, m, h => one_fold r (m := doW m w) (one_doW h w)
theorem fold_snoc (m : TMap) (l : List Wr) (w : Wr) (j : Nat) : foldW m ((l ++ [w]).take j) = foldW m (l.take j) ∨ foldW m ((l ++ [w]).take j) = doW (foldW m (l.take j)) w := by
  by_cases h : j ≤ l.length
  · left; rw [List.take_append_of_le_length h]
  · right
    rw [List.take_of_length_le (by simp; omega), List.take_of_length_le (by omega)]
    simp [foldW]

structure Inv (dur seen : TMap) (pend : List Wr) (syn now : SMap Rcd) (tch : SMap Bool) : Prop where
  o1 : oneS' seen
  od : oneS' dur
  on : oneS' now
  os : oneS' syn
  sees : ∀ p r, getS p now = some r → placeB p = true ∧ soundB r = true ∧ r.path = p ∧ getS (entL p) seen = some (encT r)
  only : ∀ n, getS n seen ≠ none → ∃ p r, n = entL p ∧ getS p now = some r
  keep : ∀ p r, getS p syn = some r → getS p tch ≠ some true → ∀ j, getS (entL p) (foldW dur (pend.take j)) = some (encT r)
  syp : ∀ p r, getS p syn = some r → placeB p = true ∧ soundB r = true ∧ r.path = p
  tx : ∀ n t, getS n seen = some t → t.length ≤ 40000
  txk : ∀ j n t, getS n (foldW dur (pend.take j)) = some t → t.length ≤ 40000

section
variable {dur seen : TMap} {pend : List Wr} {syn now : SMap Rcd} {tch : SMap Bool}
theorem Inv.sync (h : Inv dur seen pend syn now tch) {syn' : SMap Rcd} (h1 : ∀ p, getS p syn' = getS p now) (h2 : oneS' syn') : Inv seen seen [] syn' now [] := by
  refine ⟨h.o1, h.o1, h.on, h2, h.sees, h.only, fun p r hp _ j => ?_, fun p r hp => ?_, h.tx, fun j n t hn => ?_⟩
  · rw [h1] at hp; simpa [foldW] using (h.sees p r hp).2.2.2
  · rw [h1] at hp; have := h.sees p r hp; exact ⟨this.1, this.2.1, this.2.2.1⟩
  · exact h.tx n t (by simpa [foldW] using hn)
theorem Inv.put (h : Inv dur seen pend syn now tch) {r : Rcd} (hS : soundB r = true) (hp : placeB r.path = true) :
    Inv dur (setS (entL r.path) (encT r) seen) (pend ++ [(entL r.path, some (encT r))]) syn (setS r.path r now) (setS r.path true tch) := by
  have hl := enc_small hS
  refine ⟨one_set _ _ h.o1, h.od, one_set _ _ h.on, h.os, fun p q hq => ?_, fun n hn => ?_, fun p q hq ht j => ?_, h.syp, fun n t hn => ?_, fun j n t hn => ?_⟩
  · rw [get_set] at hq
    by_cases e : r.path = p
    · rw [if_pos e] at hq; cases hq
      exact ⟨e ▸ hp, hS, e, by rw [get_set, e, if_pos rfl]⟩
    · rw [if_neg e] at hq
      have := h.sees p q hq
      exact ⟨this.1, this.2.1, this.2.2.1, by rw [get_set, if_neg fun x => e (ent_inj x)]; exact this.2.2.2⟩
  · rw [get_set] at hn
    by_cases e : entL r.path = n
    · exact ⟨r.path, r, e.symm, by rw [get_set, if_pos rfl]⟩
    · rw [if_neg e] at hn
      obtain ⟨p, q, h1, h2⟩ := h.only n hn
      exact ⟨p, q, h1, by rw [get_set, if_neg fun x => e (by rw [x, h1])]; exact h2⟩
  · rw [get_set] at ht
    by_cases e : r.path = p
    · rw [if_pos e] at ht; exact (ht rfl).elim
    · rw [if_neg e] at ht
      have hk := h.keep p q hq ht
      rcases fold_snoc dur pend (entL r.path, some (encT r)) j with h1 | h1
      · rw [h1]; exact hk j
      · rw [h1, get_doW (one_fold _ h.od), if_neg fun x => e (ent_inj x)]; exact hk j
  · rw [get_set] at hn
    split at hn
    · cases hn; exact hl
    · exact h.tx n t hn
  · rcases fold_snoc dur pend (entL r.path, some (encT r)) j with h1 | h1
    · rw [h1] at hn; exact h.txk j n t hn
    · rw [h1, get_doW (one_fold _ h.od)] at hn
      split at hn
      · cases hn; exact hl
      · exact h.txk j n t hn
theorem Inv.del (h : Inv dur seen pend syn now tch) (p : List UInt8) :
    Inv dur (delS (entL p) seen) (pend ++ [(entL p, none)]) syn (delS p now) (setS p true tch) := by
  refine ⟨one_del _ h.o1, h.od, one_del _ h.on, h.os, fun q r hq => ?_, fun n hn => ?_, fun q r hq ht j => ?_, h.syp, fun n t hn => ?_, fun j n t hn => ?_⟩
  · rw [get_del _ _ h.on] at hq
    split at hq
    · cases hq
    · rename_i e
      have := h.sees q r hq
      exact ⟨this.1, this.2.1, this.2.2.1, by rw [get_del _ _ h.o1, if_neg fun x => e (ent_inj x)]; exact this.2.2.2⟩
  · rw [get_del _ _ h.o1] at hn
    split at hn
    · exact (hn rfl).elim
    · rename_i e
      obtain ⟨q, r, h1, h2⟩ := h.only n hn
      exact ⟨q, r, h1, by rw [get_del _ _ h.on, if_neg fun x => e (by rw [x, h1])]; exact h2⟩
  · rw [get_set] at ht
    by_cases e : p = q
    · rw [if_pos e] at ht; exact (ht rfl).elim
    · rw [if_neg e] at ht
      have hk := h.keep q r hq ht
      rcases fold_snoc dur pend (entL p, none) j with h1 | h1
      · rw [h1]; exact hk j
      · rw [h1, get_doW (one_fold _ h.od), if_neg fun x => e (ent_inj x)]; exact hk j
  · rw [get_del _ _ h.o1] at hn
    split at hn
    · cases hn
    · exact h.tx n t hn
  · rcases fold_snoc dur pend (entL p, none) j with h1 | h1
    · rw [h1] at hn; exact h.txk j n t hn
    · rw [h1, get_doW (one_fold _ h.od)] at hn
      split at hn
      · cases hn
      · exact h.txk j n t hn
theorem Inv.del0 (h : Inv dur seen pend syn now tch) {p : List UInt8} (hp : getS p now = none) : Inv dur seen pend syn (delS p now) (setS p true tch) := by
  have hn : ∀ q, getS q (delS p now) = getS q now := fun q => by
    rw [get_del _ _ h.on]
    split
    · rename_i e; rw [← e, hp]
    · rfl
  refine ⟨h.o1, h.od, one_del _ h.on, h.os, fun q r hq => h.sees q r (by rw [← hn]; exact hq), fun n h1 => ?_, fun q r hq ht j => ?_, h.syp, h.tx, h.txk⟩
  · obtain ⟨q, r, h2, h3⟩ := h.only n h1
    exact ⟨q, r, h2, by rw [hn]; exact h3⟩
  · rw [get_set] at ht
    by_cases e : p = q
    · rw [if_pos e] at ht; exact (ht rfl).elim
    · rw [if_neg e] at ht; exact h.keep q r hq ht j
end
end Go.Ab
