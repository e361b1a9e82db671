/- A layer of abstract values over the model, and what is proved with it: part K6. -/
import Derived.Test.YtpknaffdaemlbaaGreatDoorOX
import Derived.Test.YtpknaffdaemlbaaGreatDoorCX
import Derived.Test.YtpknaffdaemlbaaGreatDoorAA
import Derived.Test.YtpknaffdaemlbaaGreatDoorK3
import Derived.Test.YtpknaffdaemlbaaGreatDoorSK
namespace Go.Ab
open Go Go.Proofs
def c6 : AFn := ⟨(sq [(ox 2 (mb false))] (sq [(mv 16 0), (ox 17 (.build [.nils, (.int .i64 0)] [(0, (1, (.t 16)))])), (ox 18 (.box 25 (.t 17))), (mv 3 18)] (sq [(ox 19 (fc 12 [])), (mv 4 19)] (.seq (sq [(mv 20 4), (ox 21 (.ext (.pnil false) [(.t 20)]))] (cd 21 (sq [(ox 2 (mb false))] .ret) .skip)) (sq [(ox 22 .mkmap), (mv 5 22)] (.seq (sq [(mv 23 3), (ox 24 (fc 13 [(.t 23), (iv 14)])), (mv 6 24)] (.block 0 (.loop (.seq (sq [(mv 25 6), (ox 26 (b1 .gtr 25 0))] (cd 26 .skip (.exit 0))) (.seq (.block 1 (sq [(mv 29 3), (mv 30 3), (ox 31 (fc 15 [(.t 30)])), (mv 32 3), (ox 33 (fc 13 [(.t 32), (iv 9)])), (ox 34 (.bin .add (iv 1) (.t 33))), (ox 35 (fc 17 [(.t 29), (.t 31), (.t 34)])), (ox 7 (.alloc 34 [(.str []), (.int .i64 0), .nils, .nils, .nils, .nils, .nils, (.str []), (.int .i64 0), (.str []), (.str []), (.int .i64 0)])), (on (.store (some 12) (.t 7) (.t 35)))] (.seq (sq [(mv 36 3), (ox 37 (fc 13 [(.t 36), (iv 4)])), (ox 38 (b1 .eql 37 0))] (cd 38 (.seq (sq [(mv 40 5), (ox 41 (fa 0 7)), (ox 42 (ld 41)), (ox 43 (.lookup .str (.agg [(.str []), (.int .i64 0), .nils, .nils, .nils, .nils, .nils, (.str []), (.int .i64 0), (.str []), (.str []), (.int .i64 0)]) true (.t 40) (.t 42))), (mv 39 43), (ox 44 (xt 39 0)), (ox 45 (xt 39 1)), (ox 8 (.alloc 34 [(.str []), (.int .i64 0), .nils, .nils, .nils, .nils, .nils, (.str []), (.int .i64 0), (.str []), (.str []), (.int .i64 0)])), (on (.store (some 12) (.t 8) (.t 44))), (mv 9 45)] (sq [(mv 46 4), (ox 47 (fa 0 7)), (ox 48 (ld 47)), (ox 49 (fc 16 [(.t 46), (.t 48)])), (ox 50 (b1 .eql 49 0)), (mv 51 9), (ox 52 (.binb true (.t 50) (.t 51)))] (cd 52 (sq [(ox 2 (mb false))] .ret) .skip))) (sq [(mv 53 5), (ox 54 (fa 0 7)), (ox 55 (ld 54)), (on (.mdel .str (.t 53) (.t 55)))] (.exit 1))) .skip)) (.seq (sq [(mv 56 4), (ox 57 (.load (some 12) (.t 7))), (ox 58 (fc 18 [(.t 56), (.t 57)])), (ox 59 (b1 .neq 58 0))] (cd 59 (sq [(ox 2 (mb false))] .ret) .skip)) (.ops [(mv 60 5), (ox 61 (fa 0 7)), (ox 62 (ld 61)), (ox 63 (.load (some 12) (.t 7))), (on (.mapset .str (.t 60) (.t 62) (.t 63)))]))))) (.ops [(mv 27 6), (ox 28 (b1 .sub 27 1)), (mv 6 28)])))))) (sq [(mv 64 4), (ox 65 (fc 28 [(.t 64)])), (mv 10 65)] (.seq (sq [(ox 11 (.mov (iv 0)))] (.block 2 (.loop (.seq (sq [(mv 66 11), (mv 67 10), (ox 68 (.len .sl (.t 67))), (ox 69 (b2 .lss 66 68))] (cd 69 .skip (.exit 2))) (.seq (.block 3 (sq [(mv 73 5), (mv 74 10), (mv 75 11), (ox 76 (.iaddr none 12 (.t 74) (.t 75))), (ox 77 (fa 0 76)), (ox 78 (ld 77)), (ox 79 (.lookup .str (.agg [(.str []), (.int .i64 0), .nils, .nils, .nils, .nils, .nils, (.str []), (.int .i64 0), (.str []), (.str []), (.int .i64 0)]) true (.t 73) (.t 78))), (mv 72 79), (ox 80 (xt 72 0)), (ox 81 (xt 72 1)), (ox 12 (.alloc 34 [(.str []), (.int .i64 0), .nils, .nils, .nils, .nils, .nils, (.str []), (.int .i64 0), (.str []), (.str []), (.int .i64 0)])), (on (.store (some 12) (.t 12) (.t 80))), (mv 13 81)] (sq [(mv 83 4), (mv 84 10), (mv 85 11), (ox 86 (.iaddr none 12 (.t 84) (.t 85))), (ox 87 (fa 0 86)), (ox 88 (ld 87)), (ox 89 (fc 20 [(.t 83), (.t 88)])), (mv 82 89), (ox 90 (xt 82 0)), (ox 91 (xt 82 1)), (ox 14 (.alloc 34 [(.str []), (.int .i64 0), .nils, .nils, .nils, .nils, .nils, (.str []), (.int .i64 0), (.str []), (.str []), (.int .i64 0)])), (on (.store (some 12) (.t 14) (.t 90))), (mv 15 91)] (.seq (.draw [(mv 92 13), (ox 93 (.un .not (.t 92))), (mv 94 93), (of 95 (.mov (.t 15)) 94), (of 96 (.un .not (.t 95)) 94), (ox 97 (.pick (.t 94) (.v (.bool true)) (.t 96))), (mv 98 97), (of 99 (.load (some 12) (.t 12)) 98), (of 100 (.mov (.t 10)) 98), (of 101 (.mov (.t 11)) 98), (of 102 (.iaddr none 12 (.t 100) (.t 101)) 98), (of 103 (.load (some 12) (.t 102)) 98), (of 104 (fc 21 [(.t 99), (.t 103)]) 98), (of 105 (.un .not (.t 104)) 98), (ox 106 (.pick (.t 98) (.v (.bool true)) (.t 105))), (mv 107 106), (of 108 (.load (some 12) (.t 14)) 107), (of 109 (.load (some 12) (.t 12)) 107), (of 110 (fc 21 [(.t 108), (.t 109)]) 107), (of 111 (.un .not (.t 110)) 107), (ox 112 (.pick (.t 107) (.v (.bool true)) (.t 111))), (mv 113 112), (of 114 (.mov (.t 11)) 113), (of 115 (b1 .gtr 114 0) 113), (of 116 (.mov (.t 115)) 113), (ot 117 (.mov (.t 10)) 116), (ot 118 (.mov (.t 11)) 116), (ot 119 (b1 .sub 118 1) 116), (ot 120 (.iaddr none 12 (.t 117) (.t 119)) 116), (ot 121 (fa 0 120) 116), (ot 122 (ld 121) 116), (ot 123 (.mov (.t 10)) 116), (ot 124 (.mov (.t 11)) 116), (ot 125 (.iaddr none 12 (.t 123) (.t 124)) 116), (ot 126 (fa 0 125) 116), (ot 127 (ld 126) 116), (ot 128 (b2 .eql 122 127) 116), (of 129 (.pick (.t 116) (.t 128) (.v (.bool false))) 113), (ox 130 (.pick (.t 113) (.v (.bool true)) (.t 129)))] [0, 1, 3, 7, 15, 31, 63, 127, 127, 127, 895, 1919, 4095, 8191, 16383, 32767, 65535, 65535, 262143, 524287, 1048575, 2097151, 4194303, 8388607, 16777215, 33554431, 33554431, 100663295, 268435455, 536870911, 1073741823, 33554431, 33554431, 6476005375, 15065939967, 32245809151, 68719476735, 137438953471, 274877906943]) (cd 130 (sq [(ox 2 (mb false))] .ret) .skip))))) (.ops [(mv 70 11), (ox 71 (b1 .add 70 1)), (mv 11 71)])))))) (sq [(mv 131 10), (ox 132 (.len .sl (.t 131))), (mv 133 5), (ox 134 (.len .mp (.t 133))), (ox 135 (b2 .eql 132 134)), (mv 136 135), (ot 137 (.mov (.t 4)) 136), (ot 138 (fc 29 [(.t 137)]) 136), (ot 139 (.len .sl (.t 138)) 136), (ot 140 (b1 .eql 139 0) 136), (ox 141 (.pick (.t 136) (.t 140) (.v (.bool false)))), (mv 142 141), (ot 143 (fc 22 []) 142), (ox 144 (.pick (.t 142) (.t 143) (.v (.bool false)))), (mv 2 144)] .ret))))))))), 145, [(.tmp 2)]⟩
theorem c6_ok : compileF Tryz.prog [] 6 = some c6 := by kernel_rfl
end Go.Ab
namespace Go.Ab
open Go Go.Proofs
structure Now (now : SMap Rcd) (seen : TMap) : Prop where
  o : oneS' now
  rd : ∀ p r, getS p now = some r ↔ (soundB r = true ∧ r.path = p ∧ getS (entL p) seen = some (encT r))
theorem Now.nil : Now [] [] := ⟨trivial, fun p r => by simp [getS]⟩
theorem Now.put {now : SMap Rcd} {seen : TMap} (h : Now now seen) {r : Rcd} (hS : soundB r = true) : Now (setS r.path r now) (setS (entL r.path) (encT r) seen) :=
  ⟨one_set _ _ h.o, fun p x => by
    rw [get_set, get_set]
    by_cases e : r.path = p
    · rw [if_pos e, if_pos (by rw [e])]
      constructor
      · intro hx; cases hx; exact ⟨hS, e, rfl⟩
      · rintro ⟨h1, _, h3⟩
        rw [Option.some.injEq] at h3
        rw [enc_inj hS h1 h3]
    · rw [if_neg e, if_neg fun he => e (ent_inj he)]
      exact h.rd p x⟩
theorem Now.del {now : SMap Rcd} {seen : TMap} (h : Now now seen) (ho : oneS' seen) (q : List UInt8) : Now (delS q now) (delS (entL q) seen) :=
  ⟨one_del _ h.o, fun p x => by
    rw [get_del p q h.o, get_del (entL p) (entL q) ho]
    by_cases e : q = p
    · rw [if_pos e, if_pos (by rw [e])]; simp
    · rw [if_neg e, if_neg fun he => e (ent_inj he)]
      exact h.rd p x⟩
theorem AllW.del {m : TMap} (h : AllW m) (ho : oneS' m) (q : List UInt8) : AllW (delS q m) := fun k t ht => by
  rw [get_del k q ho] at ht
  split at ht
  · cases ht
  · exact h k t ht
theorem Now.del0 {now : SMap Rcd} {seen : TMap} (h : Now now seen) {q : List UInt8} (hq : getS q now = none) : Now (delS q now) seen :=
  ⟨one_del _ h.o, fun p x => by
    rw [get_del p q h.o]
    by_cases e : q = p
    · rw [if_pos e, ← h.rd p x, ← e, hq]
    · rw [if_neg e]
      exact h.rd p x⟩
theorem Now.has {now : SMap Rcd} {seen : TMap} (h : Now now seen) (hW : AllW seen) (p : List UInt8) : getS p now = none ↔ getS (entL p) seen = none := by
  constructor
  · intro hn
    cases hs : getS (entL p) seen with
    | none => rfl
    | some t =>
      obtain ⟨r, h1, h2, h3⟩ := hW _ _ hs
      have : getS p now = some r := (h.rd p r).2 ⟨h1, ent_inj h2, by rw [hs, h3]⟩
      rw [hn] at this; cases this
  · intro hs
    cases hn : getS p now with
    | none => rfl
    | some r =>
      have := ((h.rd p r).1 hn).2.2
      rw [hs] at this; cases this
theorem Now.all {now : SMap Rcd} {seen : TMap} (h : Now now seen) {l : List Rcd} (hl : AllOf seen l) {r : Rcd} (hr : r ∈ l) : getS r.path now = some r :=
  (h.rd _ _).2 ⟨((hl.mem r).1 hr).1, rfl, ((hl.mem r).1 hr).2⟩
theorem ascR_paths {l : List Rcd} (h : ascR l) : (l.map (·.path)).Nodup := by
  have := ascR_nodup h
  unfold List.Nodup at this ⊢
  rw [List.pairwise_map] at this ⊢
  exact this.imp fun {a b} hab e => hab (by rw [e])
theorem Now.len {now : SMap Rcd} {seen : TMap} (h : Now now seen) {l : List Rcd} (hl : AllOf seen l) : l.length = cntS now := by
  have hp : (l.map (·.path)).Perm (ksS now) := (List.perm_ext_iff_of_nodup (ascR_paths hl.asc) (ksS_nodup h.o)).2 fun k => by
    rw [mem_ksS h.o, List.mem_map]
    constructor
    · rintro ⟨r, hr, rfl⟩
      rw [h.all hl hr]; rfl
    · intro hk
      obtain ⟨r, hr⟩ := Option.isSome_iff_exists.1 hk
      obtain ⟨h1, h2, h3⟩ := (h.rd k r).1 hr
      exact ⟨r, (hl.mem r).2 ⟨h1, by rw [h2]; exact h3⟩, h2⟩
  have := hp.length_eq
  rwa [List.length_map, ksS_len] at this
theorem dmg_nil {m : TMap} (ho : oneS' m) (hW : AllW m) : dmgL m = [] := by
  apply List.eq_nil_iff_forall_not_mem.2
  intro n hn
  obtain ⟨h1, h2⟩ := (mem_dmg ho).1 hn
  cases hs : getS n m with
  | none => exact h1 hs
  | some t =>
    obtain ⟨r, h3, h4, h5⟩ := hW _ _ hs
    exact h2 ⟨r, h3, by rw [hs, h5]; rfl, h4⟩
theorem asc_next {l : List Rcd} (h : ascR l) {i : Nat} (h1 : i + 1 < l.length) : l[i].path ≠ l[i + 1].path := by
  intro e
  have := List.pairwise_iff_getElem.1 h i (i + 1) (by omega) h1 (by omega)
  rw [e] at this
  simp only [cmpP, cmpL_lt] at this
  exact List.lt_irrefl _ this
end Go.Ab
namespace Go.Ab
open Go Go.Proofs
structure RS where
  i : Nat
  k : Nat
  seen : TMap
  pend : List Wr
  now : SMap Rcd
structure RS.ok (n : Nat) (s : RS) : Prop where
  hi : s.i ≤ n
  hF : Fine s.seen s.i
  hW : AllW s.seen
  hN : Now s.now s.seen
  hk : s.k ≤ 1 + 200 * s.i
  hp : s.pend.length ≤ s.i
def RS.H (l : List Int) (s : RS) : List AObj := [tapeO l s.k, .box 83 [.map 2, .map 3, .own 4 s.pend.length], .map (smK .str ([] : TMap)), .map (smK .str s.seen), .reg 88 1 (s.pend.map wRow), .map (smK rV s.now)]
set_option maxRecDepth 20000 in
set_option maxHeartbeats 8000000 in
theorem DatabaseReads_c (l : List Int) : ACalls Tryz.prog 6 [tapeVs l] [] (.bool true) [] := by
  have b0 := fold_bd (tapeV l 0) 14 (by omega)
  obtain ⟨n, hn⟩ : ∃ n : Nat, fold (tapeV l 0) 14 = n := ⟨_, (Int.toNat_of_nonneg b0.1).symm⟩
  have c0 := Next_c l 0 14 (by omega) (by omega)
  rw [hn] at b0 c0
  have hcl := wRows_cl
  have hwr := wRows_ren
  have hsr := smK_renS
  have hrc := closedLL_rRows
  have hrr := renLL_rRows
  have hsrR : ∀ (is : List Nat) (m : SMap Rcd), renKv is (smK rV m) = smK rV m := fun is m => smK_ren is rV (rV_ren is) m
  have hsc : ∀ (m : TMap) (k : Nat) (a b : AV), (a, b) ∈ smK .str m → closed k a = true ∧ closed k b = true := fun m k => smK_clm (k := k) fun _ => rfl
  have hscR : ∀ (m : SMap Rcd) (k : Nat) (a b : AV), (a, b) ∈ smK rV m → closed k a = true ∧ closed k b = true := fun m k => smK_clm (k := k) (rV_cl k)
  have hwc : ∀ (w : Wr) (r : List (List AV)) (is : List Nat), renLL is (wRow w :: r) = wRow w :: renLL is r := fun w r is => by rw [renLL]; simp [wRow, renL, wAV_ren]
  have hw2 : ∀ (k : Nat) (w : Wr), closedL k (wRow w) = true := wRow_cl
  have hn0 : ∀ (is : List Nat), renLL is [] = [] := fun _ => rfl
  have hrow : ∀ r : Rcd, rRow r = [.str r.path, .int .i64 r.index, .imm (r.props.map aRow), .imm (r.tags.map sRow), .imm (r.links.map sRow), .imm (r.run.map sRow), .imm (r.load.map sRow), .str r.name, .int .i64 r.prio, .str r.owner, .str r.group, .int .i64 r.mode] := fun _ => rfl
  refine acalls_F c6_ok rfl ?_
  unfold c6 tapeVs
  simp +decide -dsimp -implicitDefEqProofs [go_sem]
  rw [tape0]
  refine callE_grow [] 4 new_c rfl (fun v G h => by rw [h.2]; rfl) (by show (List.range' 1 4).Nodup; decide) rfl (by simp) ?_
  rintro _ _ ⟨rfl, rfl⟩
  simp +decide -dsimp -implicitDefEqProofs [go_sem, dbO, dbB, mO, hsr, hn0]
  refine callE_frame [0] c0 rfl rfl (by simp) (by simp +decide -dsimp -implicitDefEqProofs [go_sem]) (by simp +decide -dsimp -implicitDefEqProofs [go_sem, tapeO_ren]) ?_
  simp +decide -dsimp -implicitDefEqProofs [go_sem, tapeO_ren]
  refine loop_of (S := RS) (fun s => ⟨tmps 145 [(3, .ptr 0 0), (4, .ptr 1 0), (5, .map 5), (6, .int .i64 ((n - s.i : Nat) : Int))], s.H l⟩) (fun s => n - s.i) (RS.ok n) ⟨0, 1, [], [], []⟩ ⟨by simp, .nil, .nil, .nil, by simp, by simp⟩ (cut_of (by simp) ?_) ?_
  · simp +decide -dsimp -implicitDefEqProofs [go_sem, RS.H, tapeO, smK_nil]
  rintro ⟨i, k, seen, pend, now⟩ ⟨hi, hF, hW, hN, hk, hp⟩
  simp only at hi hF hW hN hk hp
  simp only [RS.H]
  by_cases h : i < n
  rotate_left
  · have e : i = n := by omega
    subst e
    have hF9 : Fine seen 1000 := hF.le (by omega)
    have cA := All_c [] seen pend hF9 (by omega)
    have cD := Damaged_c [] seen pend hF (by omega)
    rw [dmg_nil hF.o hW] at cD
    have hlive := live_smK rV now
    unfold dbO dbB mO at cA cD
    simp +decide -dsimp -implicitDefEqProofs [go_sem]
    refine callE_frameR [1, 2, 3, 4] cA rfl (fun v G h => by rw [h.1]; rfl) (by simp) (by simp +decide -dsimp -implicitDefEqProofs [go_sem]) (by simp +decide -dsimp -implicitDefEqProofs [go_sem, hsr, hwr]) ?_
    rintro _ _ ⟨rfl, all, hall, rfl⟩
    have hal := hN.len hall
    have hln : all.length ≤ 1000 := by
      have := hall.len hF.o hW
      have := hF9.entsLen
      omega
    simp +decide -dsimp -implicitDefEqProofs [go_sem, hsr, hwr, hrr]
    refine loop_of (S := Nat) (fun j => ⟨tmps 145 [(4, .ptr 1 0), (5, .map 5), (10, .imm (all.map rRow)), (11, .int .i64 j)], [tapeO l k, .box 83 [.map 2, .map 3, .own 4 pend.length], .map (smK .str ([] : TMap)), .map (smK .str seen), .reg 88 1 (pend.map wRow), .map (smK rV now)]⟩) (fun j => all.length - j) (fun j => j ≤ all.length) 0 (by simp) (cut_of (by simp) ?_) ?_
    · simp +decide -dsimp -implicitDefEqProofs [go_sem, hrc, hcl, tapeO, smK_nil]
      exact ⟨hsc _ _, hscR _ _⟩
    intro j hj
    by_cases h2 : j < all.length
    · have w : IntKind.i64.wrap ((j : Int) + 1) = j + 1 := w64 (by omega) (by omega)
      have hm : all[j] ∈ all := by simp
      obtain ⟨hS, hgr⟩ := (hall.mem all[j]).1 hm
      have hpl := sound_place hS
      have hf := find_smK rV all[j].path now
      rw [hN.all hall hm] at hf
      have hf' : findKv (.str all[j].path) (smK rV now) = some (.agg (rRow all[j])) := hf
      have hkR := keys_smK rV all[j].path now
      obtain ⟨xr, xb, hx, cG⟩ := Get_c [] seen pend all[j].path hpl (by have := path_small hpl; omega) (by rw [hgr]; have := hF.tx _ _ hgr; simp only [Option.getD_some]; omega)
      have hxx : xr = all[j] ∧ xb = true := by
        rcases hx with ⟨y, hy, hye, _, rfl, rfl⟩ | ⟨hno, _⟩
        · rw [hgr] at hye
          exact ⟨enc_inj hy hS hye, rfl⟩
        · exact (hno all[j] hS (by rw [hgr]; rfl) rfl).elim
      obtain ⟨rfl, rfl⟩ := hxx
      have cs := rSame_c all[j] all[j] (small_of hS).few.fit (small_of hS).few.fit
      rw [decide_eq_true rfl] at cs
      have hld : ∀ (x : Rcd) (K : AV → Prop), ldK none (rRow x) K = K (.str x.path) := fun _ _ => rfl
      simp only [dbO, dbB, mO, recV] at cG
      simp +decide -dsimp -implicitDefEqProofs [go_sem, h2, hld, rRow_len, hkR, hf']
      refine callE_frame [1, 2, 3, 4] cG rfl rfl (by simp) (by simp +decide -dsimp -implicitDefEqProofs [go_sem]) (by simp +decide -dsimp -implicitDefEqProofs [go_sem, hsr, hwr]) ?_
      simp +decide -dsimp -implicitDefEqProofs [go_sem, hsr, hwr, hf', h2, rRow_len, rRow_take, rRow_ren]
      refine callDE_pure cs (by simp +decide -dsimp -implicitDefEqProofs [go_sem, rRow_cl]) rfl ?_
      simp +decide -dsimp -implicitDefEqProofs [go_sem, rRow_len, rRow_take]
      refine callDE_pure cs (by simp +decide -dsimp -implicitDefEqProofs [go_sem, rRow_cl]) rfl ?_
      by_cases hj0 : 0 < j
      · obtain ⟨m, rfl⟩ : ∃ m, j = m + 1 := ⟨j - 1, by omega⟩
        have hne := asc_next hall.asc h2
        have hm1 : m < all.length := by omega
        have hjz : (0 : Int) < (m : Int) + 1 := by omega
        have wm : IntKind.i64.wrap (m : Int) = (m : Int) := w64 (by omega) (by omega)
        have w3 : IntKind.i64.wrap ((m : Int) + 1 + 1) = (m : Int) + 1 + 1 := w64 (by omega) (by omega)
        have hz0 : (0 : Int) ≤ (m : Int) + 1 := by omega
        simp +decide -dsimp -implicitDefEqProofs [go_sem, h2, hld, hjz, hz0, wm, w3, hm1, hne, rRow_len]
        refine next_of (m + 1 + 1) (by show m + 1 + 1 ≤ all.length; omega) (by show all.length - (m + 1 + 1) < all.length - (m + 1); omega) (cut_of (by simp) ?_)
        simp +decide -dsimp -implicitDefEqProofs [go_sem, hrc, hcl, tapeO, smK_nil]
        exact ⟨hsc _ _, hscR _ _⟩
      · have hz : j = 0 := by omega
        subst hz
        simp +decide -dsimp -implicitDefEqProofs [go_sem]
        refine next_of 1 (by show 1 ≤ all.length; omega) (by show all.length - 1 < all.length - 0; omega) (cut_of (by simp) ?_)
        simp +decide -dsimp -implicitDefEqProofs [go_sem, hrc, hcl, tapeO, smK_nil]
        exact ⟨hsc _ _, hscR _ _⟩
    · have e : j = all.length := by omega
      subst e
      simp +decide -dsimp -implicitDefEqProofs [go_sem, hlive, hal]
      refine callE_frame [1, 2, 3, 4] cD rfl rfl (by simp) (by simp +decide -dsimp -implicitDefEqProofs [go_sem]) (by simp +decide -dsimp -implicitDefEqProofs [go_sem, hsr, hwr]) ?_
      simp +decide -dsimp -implicitDefEqProofs [go_sem, hsr, hwr, hn0]
      refine callE_pure known_c rfl rfl ?_
      simp +decide -dsimp -implicitDefEqProofs [go_sem]
  have h' : 0 < n - i := by omega
  have w : IntKind.i64.wrap (((n - i : Nat) : Int) - 1) = ((n - (i + 1) : Nat) : Int) := by rw [w64 (by omega) (by omega)]; omega
  simp +decide -dsimp -implicitDefEqProofs [go_sem, h']
  refine callE_frameR [0] (mPath_c l k (by omega)) rfl (fun v G ⟨_, _, _, hG, _⟩ => by rw [hG]; rfl) (by simp) (by simp +decide -dsimp -implicitDefEqProofs [go_sem]) (by simp +decide -dsimp -implicitDefEqProofs [go_sem, tapeO_ren]) ?_
  rintro _ _ ⟨p, k1, rfl, rfl, hpl, hk1⟩
  have c1 := Next_c l k1 9 (by omega) (by omega)
  have b1 := fold_bd (tapeV l k1) 9 (by omega)
  generalize fold (tapeV l k1) 9 = g at c1 b1
  have wg : IntKind.i64.wrap (1 + g) = 1 + g := w64 (by omega) (by omega)
  simp +decide -dsimp -implicitDefEqProofs [go_sem, tapeO_ren]
  refine callE_frame [0] c1 rfl rfl (by simp) (by simp +decide -dsimp -implicitDefEqProofs [go_sem]) (by simp +decide -dsimp -implicitDefEqProofs [go_sem, tapeO_ren]) ?_
  simp +decide -dsimp -implicitDefEqProofs [go_sem, tapeO_ren, wg]
  refine callE_frameR [0] (mRecord_c l (k1 + 1) p (1 + g) (by omega) hpl (by omega)) rfl (fun v G ⟨_, _, _, hG, _⟩ => by rw [hG]; rfl) (by simp) (by simp +decide -dsimp -implicitDefEqProofs [go_sem]) (by simp +decide -dsimp -implicitDefEqProofs [go_sem, tapeO_ren]) ?_
  rintro _ _ ⟨r, k2, rfl, rfl, hS, hrp, _, hk2⟩
  have c2 := Next_c l k2 4 (by omega) (by omega)
  have b2 := fold_bd (tapeV l k2) 4 (by omega)
  generalize fold (tapeV l k2) 4 = f at c2 b2
  have kr : (entL r.path).length ≤ 1000000 := by have := entL_len r.path; have := path_small (hrp ▸ hpl); omega
  have hkR := keys_smK rV r.path now
  rw [hrow]
  simp +decide -dsimp -implicitDefEqProofs [go_sem, tapeO_ren, renLL_sRows, renLL_aRows]
  refine callE_frame [0] c2 rfl rfl (by simp) (by simp +decide -dsimp -implicitDefEqProofs [go_sem]) (by simp +decide -dsimp -implicitDefEqProofs [go_sem, tapeO_ren]) ?_
  by_cases f0 : f = 0
  · subst f0
    have hpl2 : placeB r.path = true := hrp ▸ hpl
    have hf := find_smK rV r.path now
    have hdl := del_smK rV r.path now
    have hD := Delete_c [] seen pend r.path hpl2 (by have := path_small hpl2; omega) (by omega)
    have hhas := hN.has hW r.path
    cases hg : getS r.path now with
    | some x =>
      rw [hg] at hf
      have hf' : findKv (.str r.path) (smK rV now) = some (.agg (rRow x)) := hf
      have d := hD.1 (fun e => by rw [hhas.2 e] at hg; cases hg)
      simp only [dbO, dbB, mO] at d
      simp +decide -dsimp -implicitDefEqProofs [go_sem, tapeO_ren, hkR, hf', rRow_len]
      refine callE_frame [1, 2, 3, 4] d rfl rfl (by simp) (by simp +decide -dsimp -implicitDefEqProofs [go_sem]) (by simp +decide -dsimp -implicitDefEqProofs [go_sem, hsr, hwr]) ?_
      simp +decide -dsimp -implicitDefEqProofs [go_sem, hsr, hwr, hn0, hwc, hkR, hdl, w]
      refine next_of ⟨i + 1, k2 + 1, delS (entL r.path) seen, pend ++ [(entL r.path, none)], delS r.path now⟩ ⟨by show i + 1 ≤ n; omega, (hF.del _).le (Nat.le_succ i), hW.del hF.o _, hN.del hF.o _, by show k2 + 1 ≤ 1 + 200 * (i + 1); omega, by show (pend ++ [(entL r.path, none)]).length ≤ i + 1; simp; omega⟩ (by show n - (i + 1) < n - i; omega) (cut_of (by simp) ?_)
      simp +decide -dsimp -implicitDefEqProofs [go_sem, tapeO, hcl, hw2, smK_nil]
      exact ⟨hsc _ _, hscR _ _⟩
    | none =>
      rw [hg] at hf
      have hf' : findKv (.str r.path) (smK rV now) = none := hf
      have d := hD.2 (hhas.1 hg)
      simp only [dbO, dbB, mO] at d
      simp +decide -dsimp -implicitDefEqProofs [go_sem, tapeO_ren, hkR, hf']
      refine callE_frame [1, 2, 3, 4] d rfl rfl (by simp) (by simp +decide -dsimp -implicitDefEqProofs [go_sem]) (by simp +decide -dsimp -implicitDefEqProofs [go_sem, hsr, hwr]) ?_
      simp +decide -dsimp -implicitDefEqProofs [go_sem, hsr, hwr, hkR, hdl, w]
      refine next_of ⟨i + 1, k2 + 1, seen, pend, delS r.path now⟩ ⟨by show i + 1 ≤ n; omega, hF.le (Nat.le_succ i), hW, hN.del0 hg, by show k2 + 1 ≤ 1 + 200 * (i + 1); omega, by show pend.length ≤ i + 1; omega⟩ (by show n - (i + 1) < n - i; omega) (cut_of (by simp) ?_)
      simp +decide -dsimp -implicitDefEqProofs [go_sem, tapeO, hcl, smK_nil]
      exact ⟨hsc _ _, hscR _ _⟩
  have cp := Put_c [] seen pend r hS (by omega) (by have := cnt_le seen; have := hF.n; omega)
  have hsn : setKv (.str r.path) (.agg [.str r.path, .int .i64 r.index, .imm (r.props.map aRow), .imm (r.tags.map sRow), .imm (r.links.map sRow), .imm (r.run.map sRow), .imm (r.load.map sRow), .str r.name, .int .i64 r.prio, .str r.owner, .str r.group, .int .i64 r.mode]) (smK rV now) = smK rV (setS r.path r now) := set_smK rV r.path r now
  unfold dbO dbB mO at cp
  rw [hrow] at cp
  simp +decide -dsimp -implicitDefEqProofs [go_sem, tapeO_ren, f0]
  refine callE_frame [1, 2, 3, 4] cp rfl rfl (by simp) (by simp +decide -dsimp -implicitDefEqProofs [go_sem, renLL_sRows, renLL_aRows]) (by simp +decide -dsimp -implicitDefEqProofs [go_sem, hsr, hwr]) ?_
  simp +decide -dsimp -implicitDefEqProofs [go_sem, hsr, hwr, hwc, hn0, hkR, hsn, w]
  refine next_of ⟨i + 1, k2 + 1, setS (entL r.path) (encT r) seen, pend ++ [(entL r.path, some (encT r))], setS r.path r now⟩ ⟨by show i + 1 ≤ n; omega, hF.set kr (enc_small hS), hW.put hS, hN.put hS, by show k2 + 1 ≤ 1 + 200 * (i + 1); omega, by show (pend ++ [(entL r.path, some (encT r))]).length ≤ i + 1; simp; omega⟩ (by show n - (i + 1) < n - i; omega) (cut_of (by simp) ?_)
  simp +decide -dsimp -implicitDefEqProofs [go_sem, tapeO, hcl, hw2, smK_nil]
  exact ⟨hsc _ _, hscR _ _⟩
end Go.Ab
