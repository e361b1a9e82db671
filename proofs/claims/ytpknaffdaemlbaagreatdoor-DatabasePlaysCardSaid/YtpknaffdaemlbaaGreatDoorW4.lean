/- Numerals: what FormatInt writes. -/
import Derived.Test.YtpknaffdaemlbaaGreatDoorW3
import Derived.Test.YtpknaffdaemlbaaGreatDoorW2
import Derived.Test.YtpknaffdaemlbaaGreatDoorC1
set_option maxRecDepth 100000
set_option maxHeartbeats 2000000
namespace Go.Ab
open Go Go.Proofs

theorem QIE (w:World) (k:Nat) (os:Array Go.Obj):Go.RowKit.Below w.heap.size w (Go.Sort.grow (w.drewN k) os):=by
 refine ⟨rfl,rfl,rfl,by simp [Go.Sort.grow],fun b hb=>?_⟩
 simp only [Go.Sort.grow]
 rw [Array.getElem?_append_left (by simpa using hb)]
 simp
theorem QNM (n:Int) (h0:-9223372036854775808 ≤ n) (h1:n ≤ 9223372036854775807):ACalls Tryz.prog 64 [.int .i64 n] [] (.str (QBA 10 n)) []:=by
 refine .of_below (by kernel_rfl) fun c vs hv hg=>?_
 simp only [QAo,Val] at hv
 obtain ⟨v,vs',rfl,rfl,rfl⟩:=hv
 refine (Tryz.strconv_Itoa n h0 h1 c.w hg.2.1).mono fun e w' h=>?_
 obtain ⟨rfl,k,os,rfl⟩:=h
 exact ⟨_,rfl,QIE _ _ _,fun c'=>by simp only [Val,QIY]⟩
theorem QIq (n:Int) (h0:-9223372036854775808 ≤ n) (h1:n ≤ 9223372036854775807):ACalls Tryz.prog 151 [.int .i64 n,.int .i64 10] [] (.str (QBA 10 n)) []:=by
 refine .of_below (by kernel_rfl) fun c vs hv hg=>?_
 simp only [QAo,Val] at hv
 obtain ⟨v,vs',rfl,rfl,v2,vs2,rfl,rfl,rfl⟩:=hv
 refine (Tryz.internal_strconv_FormatInt_10 n h0 h1 c.w hg.2.1).mono fun e w' h=>?_
 obtain ⟨rfl,k,os,rfl⟩:=h
 exact ⟨_,rfl,QIE _ _ _,fun c'=>by simp only [Val,QIY]⟩

theorem tz8 (w:World) (h:w.cell? ⟨6,7,none⟩ = some (.int .u8 3)):Calls Tryz.prog 235 #[.int .u64 8] w fun e w'=>e = .returned (.int .i64 3) ∧ w' = w:=by
 have e:IntKind.u64.wrap (bits BinOp.and IntKind.u64 8 (IntKind.u64.wrap (-8)) * 285870213051353865) / 288230376151711744 = 7:=by decide +kernel
 go_enter Tryz.func235,Tryz.ntmps235
 go_wp2
 all_goals go_ret
 all_goals exact ⟨rfl,rfl⟩
theorem QWx:ACalls Tryz.prog 235 [.int .u64 8] [] (.int .i64 3) []:=
 QNV (by kernel_rfl) fun c vs hv hg=>by
  simp only [QAo,Val] at hv
  obtain ⟨v,vs',rfl,rfl,rfl⟩:=hv
  exact ⟨_,tz8 c.w hg.2.2.2.2,fun c'=>by simp only [Val]⟩
theorem tz_c:ACalls Tryz.prog 212 [.int .u64 8] [] (.int .i64 3) []:=by
 refine QAF c212_ok rfl ?_
 unfold c212
 simp +decide -dsimp -implicitDefEqProofs [go_sem]
 refine QAA QWx rfl rfl ?_
 simp +decide -dsimp -implicitDefEqProofs [go_sem]
theorem QUG:ACalls Tryz.prog 211 [.int .i64 8] [] (.bool true) []:=by
 refine QAF c211_ok rfl ?_
 unfold c211
 simp +decide -dsimp -implicitDefEqProofs [go_sem]

def QPJ (c:UInt8):AV:=.int .u8 c.toNat
def QIF (i:Nat) (ds:List UInt8):List AV:=List.replicate i (.int .u8 0) ++ ds.map QPJ
theorem QIr (i:Nat) (ds:List UInt8):(QIF i ds).length = i + ds.length:=by simp [QIF]
theorem QLk (i:Nat) (ds:List UInt8) (c:UInt8):(QIF (i + 1) ds).take i ++ [.int .u8 c.toNat] ++ (QIF (i + 1) ds).drop (i + 1) = QIF i (c :: ds):=by
 have e1:(QIF (i + 1) ds).take i = List.replicate i (.int .u8 0):=by
  rw [QIF,List.take_append_of_le_length (by simp),List.take_replicate]; congr 1; omega
 have e2:(QIF (i + 1) ds).drop (i + 1) = ds.map QPJ:=by
  rw [QIF,List.drop_append_of_le_length (by simp),List.drop_eq_nil_of_le (by simp)]; rfl
 rw [e1,e2]; simp [QIF,QPJ]
theorem QPK (i:Nat) (ds:List UInt8):unb (((QIF i ds).drop i).map fun x=>[x]) = some ds:=by
 have e2:(QIF i ds).drop i = ds.map QPJ:=by
  rw [QIF,List.drop_append_of_le_length (by simp),List.drop_eq_nil_of_le (by simp)]; rfl
 rw [e2,List.map_map]
 exact QGA ds
theorem QWy:QIF 65 [] = zU65:=rfl
theorem and7 (u:Nat) (h:u < 18446744073709551616):bits .and .u64 (u:Int) 7 = ((u % 8:Nat):Int):=by
 have:=bits_mask .u64 64 (by decide) (fun n h0 h1=>by rw [IntKind.wrap_u64]; omega) 3 (by decide) (u:Int) (by omega) (by omega)
 simpa using this
theorem QNN {n:Int} (h0:0 ≤ n) (h1:n < 18446744073709551616):IntKind.u64.wrap n = n:=by rw [IntKind.wrap_u64]; omega
theorem QJj:∀ x:Fin 10,QK6[x.val]? = some (QKs x.val):=by decide
theorem QKx (k i:Nat) (ds:List UInt8):QAS k (QIF i ds) = true:=by
 have key:∀ l:List AV,(∀ x ∈ l,QAM k x = true) → QAS k l = true:=by
  intro l
  induction l with
  | nil=>intro _; simp [QAS]
  | cons x l ih=>intro h; simp only [QAS,Bool.and_eq_true]; exact ⟨h x (by simp),ih fun y hy=>h y (by simp [hy])⟩
 refine key _ fun x hx=>?_
 rcases List.mem_append.1 hx with hx | hx
 ·rw [(List.mem_replicate.1 hx).2]; rfl
 ·obtain ⟨c,_,rfl⟩:=List.mem_map.1 hx; rfl
theorem QLl (H:List AObj) (k i:Nat) (ds:List UInt8):cvT H k (QIF i ds) (QIF i ds):=QFh (QKx k i ds)
theorem QRg (n:Nat) (hn:n < 1000000):ACalls Tryz.prog 184 [.nils,.int .u64 n,.int .i64 8,.bool false,.bool false] [] (.tup [.nils,.str (QCn 8 n)]) []:=by
 refine QAF c184_ok rfl ?_
 unfold c184
 rw [← QWy]
 simp +decide -dsimp -implicitDefEqProofs [go_sem]
 refine QAA QUG rfl rfl ?_
 simp +decide -dsimp -implicitDefEqProofs [go_sem]
 refine QAA tz_c rfl rfl ?_
 simp +decide -dsimp -implicitDefEqProofs [go_sem]
 refine QAR (S:=Nat × List UInt8 × Nat) (fun s=>⟨tmps 102 [(0,.nils),(1,.int .u64 s.2.2),(3,.bool false),(4,.bool false),(10,.nils),(12,.ptr 0 0),(13,.int .i64 s.1),(14,.int .u64 3),(15,.int .u64 8),(16,.int .u64 7)],[.box 238 (QIF s.1 s.2.1)]⟩) (fun s=>s.2.2)
  (fun s=>s.1 + s.2.1.length = 65 ∧ QCn 8 n = QCn 8 s.2.2 ++ s.2.1 ∧ s.2.2 * 8 ^ s.2.1.length ≤ n ∧ (1 ≤ s.2.2 ∨ s.2.1 = []) ∧ s.2.2 ≤ n) (65,[],n) (by simp) (QAD (by simp) ?_) ?_
 ·simp +decide -dsimp -implicitDefEqProofs [go_sem,QLl]
 rintro ⟨i,ds,u⟩ ⟨h1,h2,h3,h4,h5⟩
 simp only at h1 h2 h3 h4 h5
 have hlen:ds.length ≤ 7:=by
  rcases h4 with h4 | rfl
  ·apply Nat.le_of_not_lt
   intro h
   have e1:8 ^ 8 ≤ 8 ^ ds.length:=Nat.pow_le_pow_right (by decide) h
   have e2:8 ^ ds.length ≤ u * 8 ^ ds.length:=Nat.le_mul_of_pos_left _ h4
   have e3:(8:Nat) ^ 8 = 16777216:=by decide
   omega
  ·simp
 obtain ⟨j,rfl⟩:∃ j,i = j + 1:=⟨i - 1,by omega⟩
 by_cases h:8 ≤ u
 ·have h8:(8:Int) ≤ u:=by omega
  have hm:u % 8 < 10:=by omega
  have w1:IntKind.i64.wrap ((j:Int) + 1 - 1) = j:=by rw [Int.add_sub_cancel]; exact w64 (by omega) (by omega)
  have w2:IntKind.i64.wrap (j:Int) = j:=w64 (by omega) (by omega)
  have a7:bits .and .u64 (u:Int) 7 = (u:Int) % 8:=by rw [and7 u (by omega)]; omega
  have p7:(0:Int) ≤ (u:Int) % 8:=by omega
  have t7:((u:Int) % 8).toNat = u % 8:=by omega
  have hd:QK6[u % 8]? = some (QKs (u % 8)):=QJj ⟨u % 8,hm⟩
  have d8:(u:Int).fdiv 8 = (u:Int) / 8:=Int.fdiv_eq_ediv_of_nonneg _ (by decide)
  have hj:j < 65:=by omega
  have hj2:(j:Int) < 65:=by omega
  have hset:=QLk j ds (QKs (u % 8))
  simp +decide -dsimp -implicitDefEqProofs [go_sem,h8,w2,a7,d8,p7,t7,hd,hj,QIr,hset]
  have hd8:(u:Int) / 8 = ((u / 8:Nat):Int):=by omega
  rw [hd8]
  refine QAI (j,QKs (u % 8) :: ds,u / 8) ⟨by simp; omega,?_,?_,by left; show 1 ≤ u / 8; omega,by show u / 8 ≤ n; omega⟩ (by show u / 8 < u; omega) (QAD (by simp) ?_)
  ·rw [h2,QHU (by decide) h]; simp
  ·simp only [List.length_cons,Nat.pow_succ]
   have e1:u / 8 * (8 ^ ds.length * 8) = (u / 8 * 8) * 8 ^ ds.length:=by rw [Nat.mul_comm (8 ^ ds.length),Nat.mul_assoc]
   rw [e1]
   exact Nat.le_trans (Nat.mul_le_mul_right _ (by omega)) h3
  simp +decide -dsimp -implicitDefEqProofs [go_sem,QLl]
 ·have h8:¬ (8:Int) ≤ u:=by omega
  have w1:IntKind.i64.wrap ((j:Int) + 1 - 1) = j:=by rw [Int.add_sub_cancel]; exact w64 (by omega) (by omega)
  have w2:IntKind.i64.wrap (j:Int) = j:=w64 (by omega) (by omega)
  have hd:QK6[u]? = some (QKs u):=QJj ⟨u,by omega⟩
  have hj:j < 65:=by omega
  have hj2:(j:Int) < 65:=by omega
  have hset:=QLk j ds (QKs u)
  have hw:=QPK j (QKs u :: ds)
  have e2:QCn 8 n = QKs u :: ds:=by rw [h2,QFB (by omega)]; rfl
  have hn:(65 - (j:Int)).toNat = ds.length + 1:=by omega
  have e3:((QIF j (QKs u :: ds)).drop j).take (ds.length + 1) = (QIF j (QKs u :: ds)).drop j:=List.take_of_length_le (by simp [QIr])
  have hl:j + (ds.length + 1) = 65:=by omega
  have hl2:j + (ds.length + 1) ≤ j + (ds.length + 1):=Nat.le_refl _
  simp +decide -dsimp -implicitDefEqProofs [go_sem,h8,w2,hd,hj,hj2,QIr,hset,hn,e3,e2,hl]
  refine ⟨by omega,?_⟩
  rw [← List.map_drop,hw]
  exact rfl
end Go.Ab
namespace Go.Ab
open Go Go.Proofs
theorem QJk (n:Int) (h0:0 ≤ n) (h1:n < 1000000):ACalls Tryz.prog 151 [.int .i64 n,.int .i64 8] [] (.str (QBA 8 n)) []:=by
 refine QAF c151_ok rfl ?_
 unfold c151
 obtain ⟨m,rfl⟩:∃ m:Nat,n = m:=⟨n.toNat,by omega⟩
 have e:QBA 8 (m:Int) = QCn 8 m:=by rw [QBA,if_neg (by omega)]; simp
 have w:IntKind.u64.wrap (m:Int) = m:=QNN (by omega) (by omega)
 have h2:¬ (m:Int) < 0:=by omega
 rw [e]
 simp +decide -dsimp -implicitDefEqProofs [go_sem,w,h2]
 refine QAA (QRg m (by omega)) rfl rfl ?_
 simp +decide -dsimp -implicitDefEqProofs [go_sem]
theorem QLm {n:Int} {b:Nat} {t:List UInt8} (h:ACalls Tryz.prog 151 [.int .i64 n,.int .i64 b] [] (.str t) []):ACalls Tryz.prog 113 [.int .i64 n,.int .i64 b] [] (.str t) []:=by
 refine QAF c113_ok rfl ?_
 unfold c113
 simp +decide -dsimp -implicitDefEqProofs [go_sem]
 refine QAA h rfl rfl ?_
 simp +decide -dsimp -implicitDefEqProofs [go_sem]
theorem QQm (n:Int) (h0:0 ≤ n) (h1:n < 1000000):ACalls Tryz.prog 113 [.int .i64 n,.int .i64 8] [] (.str (QBA 8 n)) []:=QLm (b:=8) (QJk n h0 h1)
theorem QRh (n:Int) (h0:-9223372036854775808 ≤ n) (h1:n ≤ 9223372036854775807):ACalls Tryz.prog 113 [.int .i64 n,.int .i64 10] [] (.str (QBA 10 n)) []:=QLm (b:=10) (QIq n h0 h1)
theorem QLn {n:Int} {b:Nat} (h:ACalls Tryz.prog 113 [.int .i64 n,.int .i64 b] [] (.str (QBA b n)) []):ACalls Tryz.prog 66 [.int .i64 n,.int .i64 b] [] (.str (QDE b n)) []:=by
 refine QAF c66_ok rfl ?_
 unfold c66 QDE
 by_cases h0:n = 0
 ·subst h0
  simp +decide -dsimp -implicitDefEqProofs [go_sem]
 ·simp +decide -dsimp -implicitDefEqProofs [go_sem,h0]
  refine QAA h rfl rfl ?_
  simp +decide -dsimp -implicitDefEqProofs [go_sem]

structure Lines (r:Rcd):Prop where
 len:(QBJ r).length < 100000000
 props:r.props.length < 1000000
 tags:r.tags.length < 1000000
 links:r.links.length < 1000000
 run:r.run.length < 1000000
 load:r.load.length < 1000000
end Go.Ab
namespace Go.Ab
open Go Go.Proofs

theorem QDa {b:UInt8} {l:List (List UInt8)} {B:Nat} (h:∀ x ∈ l,x.length ≤ B):(QAQ b l).length ≤ l.length * (B + 3):=by
 induction l with
 | nil=>simp [QAQ]
 | cons x l ih=>
  have h1:=h x (by simp)
  have h2:=ih fun y hy=>h y (by simp [hy])
  have e:QAQ b (x :: l) = QBT b x ++ QAQ b l:=rfl
  rw [e]
  simp only [List.length_append,QBT,List.length_cons,List.length_nil,Nat.add_mul]
  omega
theorem QC6 {b:UInt8} {x:List UInt8}:(QAj b x).length ≤ x.length + 3:=by
 unfold QAj; split
 ·simp
 ·simp [QBT]
theorem QIG {c:UInt8} {B:Nat}:∀ {s:List UInt8},(∀ x ∈ QBY c s,x.length ≤ B) → s.length + 1 ≤ (QBY c s).length * (B + 1)
 | [],_=>by simp [QBY]
 | x :: r,h=>by
  unfold QBY at h ⊢
  split at h
  ·rename_i e
   rw [if_pos e]
   have:=QIG (c:=c) (s:=r) fun y hy=>h y (by simp [hy])
   simp only [List.length_cons,Nat.add_mul]; omega
  ·rename_i e
   rw [if_neg e]
   split at h
   ·rename_i a l hl
    have h1:=h (x :: a) (by simp)
    have key:∀ (s:List UInt8) (a:List UInt8) (l:List (List UInt8)),QBY c s = a :: l → (∀ y ∈ l,y.length ≤ B) → s.length ≤ a.length + l.length * (B + 1):=by
     intro s
     induction s with
     | nil=>intro a l hs _; simp
     | cons y s ih=>
      intro a l hs hall
      unfold QBY at hs
      split at hs
      ·simp only [List.cons.injEq] at hs
       obtain ⟨rfl,rfl⟩:=hs
       obtain ⟨a',l',hs'⟩:=List.exists_cons_of_ne_nil (QEd c s)
       rw [hs'] at hall
       have:=ih a' l' hs' fun y hy=>hall y (by simp [hy])
       have h2:=hall a' (by simp)
       rw [hs']
       simp only [List.length_cons,List.length_nil,Nat.add_mul]; omega
      ·split at hs
       ·rename_i a' l' hs'
        simp only [List.cons.injEq] at hs
        obtain ⟨rfl,rfl⟩:=hs
        have:=ih a' l' hs' hall
        simp only [List.length_cons]; omega
       ·rename_i hs'; exact absurd hs' (QEd c s)
    have:=key r a l hl fun y hy=>h y (by simp [hy])
    simp only [List.length_cons,Nat.add_mul] at h1 ⊢; omega
   ·rename_i hl; exact absurd hl (QEd c r)
theorem QBV {s:List UInt8} (h:QAd s = true):s.length ≤ 240:=by
 unfold QAd at h
 split at h
 ·rename_i l hl
  simp only [decide_eq_true_eq] at h
  unfold QCf at hl
  split at hl
  ·cases hl
  ·rename_i c r
   split at hl
   ·rename_i hc
    simp only [Option.some.injEq] at hl
    have h2:=List.all_eq_true.1 hc.2
    rw [hl] at h2
    rw [QCq] at hl
    have:=QIG (c:=47) (B:=32) (s:=r) fun x hx=>QDD (h2 x (hl ▸ hx))
    rw [hl] at this
    have h3:l.length * 33 ≤ 7 * 33:=Nat.mul_le_mul_right _ h
    simp only [List.length_cons]; omega
   ·cases hl
 ·cases h
theorem QIH {s:List UInt8} (h:QCv s = true):s.length ≤ 256:=by
 unfold QCv at h
 simp only [Bool.and_eq_true,decide_eq_true_eq] at h
 exact h.2
theorem QMd {s:List UInt8} (h:QCw s = true):s.length ≤ 256:=by
 unfold QCw at h
 simp only [Bool.and_eq_true,decide_eq_true_eq] at h
 exact h.1
theorem QNO {s:List UInt8} (h:QEu s = true):s.length ≤ 32:=by
 unfold QEu at h
 simp only [Bool.and_eq_true,decide_eq_true_eq] at h
 exact h.1.1.2
theorem QEk {b:Nat} (hb:2 ≤ b) (hb2:b ≤ 10) {n:Int} (h:n.natAbs < b ^ 10):(QBA b n).length ≤ 11:=by
 have h4:=(QCO hb hb2 n.natAbs).2.2.2 10 (by decide) h
 unfold QBA
 split
 ·simp; omega
 ·have e:n.toNat = n.natAbs:=by omega
  rw [e]; omega
theorem QDb {b:Nat} (hb:2 ≤ b) (hb2:b ≤ 10) {n:Int} (h:n.natAbs < b ^ 10):(QDE b n).length ≤ 11:=by
 unfold QDE; split
 ·simp
 ·exact QEk hb hb2 h

structure Small (r:Rcd):Prop where
 path:r.path.length ≤ 240
 props:r.props.length ≤ 64
 attr:∀ p ∈ r.props,p.1.length ≤ 32 ∧ p.2.length ≤ 256
 tags:r.tags.length ≤ 16
 tag:∀ x ∈ r.tags,x.length ≤ 32
 links:r.links.length ≤ 16
 link:∀ x ∈ r.links,x.length ≤ 256
 runs:r.run.length ≤ 16
 run:∀ x ∈ r.run,x.length ≤ 256
 loads:r.load.length ≤ 16
 load:∀ x ∈ r.load,x.length ≤ 256
 name:r.name.length ≤ 32
 owner:r.owner.length ≤ 32
 group:r.group.length ≤ 32
theorem QBf {r:Rcd} (h:QAb r = true):Small r:=by
 unfold QAb at h
 simp only [Bool.and_eq_true,Bool.or_eq_true,decide_eq_true_eq,QEc,QF1,List.all_eq_true] at h
 obtain ⟨⟨⟨⟨⟨⟨⟨⟨⟨⟨⟨h1,h2⟩,h3⟩,h4⟩,h5⟩,h6⟩,h7⟩,h8⟩,h9⟩,h10⟩,h11⟩,h12⟩:=h
 have hg:∀ p ∈ r.props,QEu p.1 = true ∧ QCv p.2 = true:=fun p hp=>by simpa [QDJ] using h3.1.1 p hp
 have hf:∀ x,QBl x = true → x.length ≤ 256:=fun x hx=>by
  unfold QBl at hx; simp only [Bool.and_eq_true] at hx; exact QIH hx.2
 refine ⟨QBV h1,h3.2,fun p hp=>⟨QNO (hg p hp).1,QIH (hg p hp).2⟩,h4.2,fun x hx=>QDD (h4.1.1 x hx),h5.2,fun x hx=>QMd (h5.1.1 x hx),h7,fun x hx=>hf x (h8 x hx),h6.2,fun x hx=>hf x (h6.1.1 x hx),?_,?_,?_⟩
 ·rcases h9 with h | h
  ·rw [h]; simp
  ·unfold QCb at h; simp only [Bool.and_eq_true] at h; exact QDD h.1.1.1
 ·rcases h12 with h | h
  ·rw [h.1]; simp
  ·exact QDD h.1
 ·rcases h12 with h | h
  ·rw [h.2.1]; simp
  ·exact QDD h.2
theorem Small.few {r:Rcd} (h:Small r):Few r:=by
 have:=h.path; have:=h.tags; have:=h.props; have:=h.links; have:=h.runs; have:=h.loads
 exact ⟨by omega,by omega,by omega,fun x hx=>by have:=h.attr x hx; omega,by omega,fun x hx=>by have:=h.link x hx; omega,by omega,fun x hx=>by have:=h.run x hx; omega,by omega,fun x hx=>by have:=h.load x hx; omega⟩
theorem QC7 {r:Rcd} (h:QAb r = true):(QBJ r).length ≤ 40000:=by
 have s:=QBf h
 have n:=QFD h
 have hp:=n.prio; have hm:=n.mode; have hi:=n.index
 have a1:(QBA 10 r.index).length ≤ 11:=QEk (by decide) (by decide) (by omega)
 have a2:(QDE 10 r.prio).length ≤ 11:=QDb (by decide) (by decide) (by omega)
 have a3:(QDE 8 r.mode).length ≤ 11:=QDb (by decide) (by decide) (by omega)
 have b1:=QDa (b:=69) (l:=r.props.map QCo) (B:=289) fun x hx=>by
  obtain ⟨p,hp,rfl⟩:=List.mem_map.1 hx
  have:=s.attr p hp
  simp only [QCo,List.length_append,List.length_cons]; omega
 have b2:=QDa (b:=71) s.tag
 have b3:=QDa (b:=76) s.link
 have b4:=QDa (b:=82) s.run
 have b5:=QDa (b:=77) s.load
 have c1:=@QC6 78 r.name
 have c2:=@QC6 79 r.owner
 have c3:=@QC6 81 r.group
 have c4:=@QC6 89 (QDE 10 r.prio)
 have c5:=@QC6 88 (QDE 8 r.mode)
 have:=s.path; have:=s.props; have:=s.tags; have:=s.links; have:=s.runs; have:=s.loads; have:=s.name; have:=s.owner; have:=s.group
 rw [List.length_map] at b1
 simp only [QBJ,List.length_append,QBT,List.length_cons,List.length_nil]
 omega
end Go.Ab
namespace Go.Ab
open Go Go.Proofs

theorem QF4 {x:AObj} {tl:List AObj} {l:List UInt8} {b:UInt8} {ts:List (List UInt8)} {K:List AObj → AV → Prop} {u:QCB K} (hn:ts.length ≤ 1000000) (hs:l.length + (QAQ b ts).length ≤ 1000000000)
  (hK:∀ l',l' = l ++ QAQ b ts → K (x :: .box 116 [.ptr 1 0,.own 2 l'.length] :: .reg 5 1 (l'.map QCX) :: tl) (.tup [])):
  QFE Tryz.prog 63 [.ptr 1 0,.int .u8 b.toNat,.imm (ts.map QAf)] (x :: .box 116 [.ptr 1 0,.own 2 l.length] :: .reg 5 1 (l.map QCX) :: tl) K u:=by
 refine QAB [1,2] (QK0 (.inl rfl) b ts (.inr rfl) hn hs) rfl rfl (by simp) (by simp +decide -dsimp -implicitDefEqProofs [go_sem]) (by simp +decide -dsimp -implicitDefEqProofs [go_sem,bld]) ?_
 have:=hK _ rfl
 simpa [go_sem,bld] using this
theorem QPL {x:AObj} {b:UInt8} {ts:List (List UInt8)} {K:List AObj → AV → Prop} {u:QCB K} (h0:ts ≠ []) (hn:ts.length ≤ 1000000) (hs:(QAQ b ts).length ≤ 1000000000)
  (hK:∀ l',l' = QAQ b ts → K [x,.box 116 [.ptr 1 0,.own 2 l'.length],.reg 5 1 (l'.map QCX)] (.tup [])):
  QFE Tryz.prog 63 [.ptr 1 0,.int .u8 b.toNat,.imm (ts.map QAf)] [x,.box 116 [.nilp,.own 2 0],.reg 5 1 []] K u:=by
 refine QAB [1,2] (QK0 (l:=[]) (.inr ⟨rfl,rfl⟩) b ts (.inl h0) hn (by simpa using hs)) rfl rfl (by simp) (by simp +decide -dsimp -implicitDefEqProofs [go_sem]) (by simp +decide -dsimp -implicitDefEqProofs [go_sem,QWC]) ?_
 have:=hK _ rfl
 simpa [go_sem,bld] using this
theorem QFM {x:AObj} {tl:List AObj} {l:List UInt8} {b:UInt8} {s:List UInt8} {K:List AObj → AV → Prop} {u:QCB K} (hs:l.length + s.length + 3 ≤ 1000000000)
  (hK:∀ l',l' = l ++ QAj b s → K (x :: .box 116 [.ptr 1 0,.own 2 l'.length] :: .reg 5 1 (l'.map QCX) :: tl) (.tup [])):
  QFE Tryz.prog 65 [.ptr 1 0,.int .u8 b.toNat,.str s] (x :: .box 116 [.ptr 1 0,.own 2 l.length] :: .reg 5 1 (l.map QCX) :: tl) K u:=by
 refine QAB [1,2] (QKG l b s hs) rfl rfl (by simp) (by simp +decide -dsimp -implicitDefEqProofs [go_sem]) (by simp +decide -dsimp -implicitDefEqProofs [go_sem,bld]) ?_
 have:=hK _ rfl
 simpa [go_sem,bld] using this
theorem QRi {x:AObj} {tl:List AObj} {l:List UInt8} {s:List UInt8} {K:List AObj → AV → Prop} {u:QCB K} (hs:l.length + s.length ≤ 1000000000)
  (hK:∀ l',l' = l ++ s → K (x :: .box 116 [.ptr 1 0,.own 2 l'.length] :: .reg 5 1 (l'.map QCX) :: tl) (.tup [.int .i64 s.length,.raw .nilIface])):
  QFE Tryz.prog 56 [.ptr 1 0,.str s] (x :: .box 116 [.ptr 1 0,.own 2 l.length] :: .reg 5 1 (l.map QCX) :: tl) K u:=by
 refine QAB [1,2] (QFN (.inl rfl) s hs) rfl rfl (by simp) (by simp +decide -dsimp -implicitDefEqProofs [go_sem]) (by simp +decide -dsimp -implicitDefEqProofs [go_sem,bld]) ?_
 have:=hK _ rfl
 simpa [go_sem,bld] using this
theorem QPM {x:AObj} {tl:List AObj} {l:List UInt8} {K:List AObj → AV → Prop} {u:QCB K} (h0:l ≠ [])
  (hK:K (x :: .box 116 [.ptr 1 0,.own 2 l.length] :: .dead :: tl) (.str l)):
  QFE Tryz.prog 58 [.ptr 1 0] (x :: .box 116 [.ptr 1 0,.own 2 l.length] :: .reg 5 1 (l.map QCX) :: tl) K u:=by
 refine QAB [1,2] (QPO l h0) rfl rfl (by simp) (by simp +decide -dsimp -implicitDefEqProofs [go_sem]) (by simp +decide -dsimp -implicitDefEqProofs [go_sem,bld]) ?_
 simpa [go_sem,QWz] using hK

def QKq (r:Rcd):List UInt8:=if QAb r then QBJ r else []

theorem QIs (r:Rcd) (hf:Few r):ACalls Tryz.prog 30 [.agg (QAU r)] [] (.tup [.str (QKq r),.int .i64 (QJe r)]) []:=by
 refine QBw c30_ok rfl ?_
 unfold c30
 have c0:=QTH r hf
 by_cases hS:QAb r = true
 rotate_left
 ·have e1:QKq r = []:=by simp [QKq,hS]
  have e2:QJe r = 250:=by simp [QJe,hS]
  rw [e1,e2]
  refine QAJ ?_
  unfold QAU at c0 ⊢
  simp +decide -dsimp -implicitDefEqProofs [go_sem]
  refine QAA c0 (by simp [go_sem]) rfl ?_
  simp +decide -dsimp -implicitDefEqProofs [go_sem,hS]
 have e1:QKq r = QBJ r:=by simp [QKq,hS]
 have e2:QJe r = 0:=by simp [QJe,hS]
 have hsm:=QC7 hS
 have hsz:=QBf hS
 have hni:=QFD hS
 have z1:=hsz.props; have z2:=hsz.tags; have z3:=hsz.links; have z4:=hsz.runs; have z5:=hsz.loads
 rw [e1,e2]
 refine QAL ⟨tmps 68 [(1,.ptr 0 0),(2,.str []),(3,.int .i64 0)],[.box 34 (QAU r)]⟩ (QAJ ?_) (QAL ⟨tmps 68 [(1,.ptr 0 0),(2,.str []),(3,.int .i64 0)],[.box 34 (QAU r)]⟩ (QAJ ?_)
  (QAL ⟨tmps 68 [(1,.ptr 0 0),(2,.str []),(3,.int .i64 0),(4,.ptr 1 0)],[.box 34 (QAU r),.box 116 [.nilp,.own 2 0],.reg 5 1 []]⟩ (QAJ ?_) (QAJ ?_)))
 ·unfold QAU
  simp +decide -dsimp -implicitDefEqProofs [go_sem]
  refine QAH (by simp) ?_
  simp +decide -dsimp -implicitDefEqProofs [go_sem]
 ·unfold QAU at c0 ⊢
  simp +decide -dsimp -implicitDefEqProofs [go_sem]
  refine QAA c0 (by simp [go_sem]) rfl ?_
  simp +decide -dsimp -implicitDefEqProofs [go_sem,hS]
  refine QAH (by simp) ?_
  simp +decide -dsimp -implicitDefEqProofs [go_sem]
 ·unfold QAU
  simp +decide -dsimp -implicitDefEqProofs [go_sem]
  refine Wk.trans (Wk.nilB 1 1 5 1 rfl rfl (Nat.zero_le _)) (QAD (by simp) ?_)
  simp +decide -dsimp -implicitDefEqProofs [go_sem]
 have hle:∀ l:List UInt8,(∃ t,QBJ r = l ++ t) → l.length ≤ 40000:=fun l ⟨t,ht⟩=>by
  have:=congrArg List.length ht
  rw [List.length_append] at this; omega
 unfold QAU
 simp +decide -dsimp -implicitDefEqProofs [go_sem]
 refine QPL (b:=80) (ts:=[r.path]) (by simp) (by simp) (by simp [QAQ,QBT]; have:=hsz.path; omega) fun l1 hl1=>?_
 simp +decide -dsimp -implicitDefEqProofs [go_sem]
 refine QAA (QNM r.index (by have:=hni.index; omega) (by have:=hni.index; omega)) rfl rfl ?_
 simp +decide -dsimp -implicitDefEqProofs [go_sem]
 have a1:(QBA 10 r.index).length ≤ 11:=QEk (by decide) (by decide) (by have:=hni.index; omega)
 have hl1':l1.length ≤ 300:=by rw [hl1]; simp [QAQ,QBT]; have:=hsz.path; omega
 refine QF4 (b:=73) (ts:=[QBA 10 r.index]) (by simp) (by simp [QAQ,QBT]; omega) fun l2 hl2=>?_
 have q1:QBJ r = l1 ++ tl1 r:=by rw [hl1,QQ3]; simp [QAQ]
 have q2:QBJ r = l2 ++ tl2 r:=by rw [q1,hl2]; simp [tl1,QAQ]
 clear q1 hl1 hl1' hl2
 simp +decide -dsimp -implicitDefEqProofs [go_sem]
 refine QAR (S:=Nat × List UInt8) (fun s=>⟨tmps 68 [(1,.ptr 0 0),(2,.str []),(3,.int .i64 0),(4,.ptr 1 0),(20,.imm (r.props.map QBF)),(21,.int .i64 r.props.length),(22,.int .i64 s.1)],[.box 34 (QAU r),.box 116 [.ptr 1 0,.own 2 s.2.length],.reg 5 1 (s.2.map QCX)]⟩) (fun s=>r.props.length - s.1)
  (fun s=>s.1 ≤ r.props.length ∧ s.2 = l2 ++ QAQ 69 ((r.props.take s.1).map QCo)) (0,l2) (by simp [QAQ]) (QAD (by simp) ?_) ?_
 ·simp +decide -dsimp -implicitDefEqProofs [go_sem,QAU]
 rintro ⟨i,l⟩ ⟨hi,hl⟩
 simp only at hi hl
 have hlen2:=congrArg List.length q2
 by_cases h:i < r.props.length
 ·have w:IntKind.i64.wrap ((i:Int) + 1) = i + 1:=w64 (by omega) (by omega)
  have hat:=hsz.attr _ (List.getElem_mem h)
  have hnext:l ++ QAQ 69 [QCo r.props[i]] = l2 ++ QAQ 69 ((r.props.take (i + 1)).map QCo):=by
   rw [hl,List.take_succ_eq_append_getElem h,List.map_append,List.append_assoc]
   congr 1
   simp [QAQ]
  have hll:l.length ≤ 40000:=by
   refine hle l ⟨QAQ 69 ((r.props.drop i).map QCo) ++ tl3 r,?_⟩
   rw [q2,hl,tl2]
   simp only [List.append_assoc]
   congr 1
   rw [← List.append_assoc]
   congr 1
   rw [QAQ,QAQ,QAQ,← List.flatMap_append,← List.map_append,List.take_append_drop]
  unfold QAU
  simp +decide -dsimp -implicitDefEqProofs [go_sem,h,QO7]
  have ea:(QBF r.props[i]) = [.str r.props[i].1,.str r.props[i].2]:=rfl
  simp +decide -dsimp -implicitDefEqProofs [go_sem,ea]
  refine ⟨by omega,by omega,?_⟩
  have eb:QCo r.props[i] = r.props[i].1 ++ 61 :: r.props[i].2:=rfl
  rw [← eb]
  refine QF4 (b:=69) (ts:=[QCo r.props[i]]) (by simp) (by simp [QAQ,QBT,QCo]; omega) fun l' hl'=>?_
  simp +decide -dsimp -implicitDefEqProofs [go_sem,w]
  refine QAI (i + 1,l') ⟨by show i + 1 ≤ _; omega,by show l' = _; rw [hl',hnext]⟩ (by show _ - (i + 1) < _ - i; omega) (QAD (by simp) ?_)
  simp +decide -dsimp -implicitDefEqProofs [go_sem]
 have ei:i = r.props.length:=by omega
 subst ei
 rw [List.take_length] at hl
 have q3:QBJ r = l ++ tl3 r:=by rw [q2,hl,tl2]; simp
 clear hl q2 hlen2
 unfold QAU
 simp +decide -dsimp -implicitDefEqProofs [go_sem]
 have hlen:=congrArg List.length q3
 simp only [tl3,List.length_append] at hlen
 refine QF4 (b:=71) (ts:=r.tags) (by omega) (by omega) fun m0 hln=>?_
 have q4:QBJ r = m0 ++ tl4 r:=by rw [q3,hln,tl3]; simp
 clear hlen hln q3
 simp +decide -dsimp -implicitDefEqProofs [go_sem]
 have hlen:=congrArg List.length q4
 simp only [tl4,List.length_append] at hlen
 refine QF4 (b:=76) (ts:=r.links) (by omega) (by omega) fun m1 hln=>?_
 have q5:QBJ r = m1 ++ tl5 r:=by rw [q4,hln,tl4]; simp
 clear hlen hln q4
 simp +decide -dsimp -implicitDefEqProofs [go_sem]
 have hlen:=congrArg List.length q5
 simp only [tl5,List.length_append] at hlen
 refine QF4 (b:=82) (ts:=r.run) (by omega) (by omega) fun m2 hln=>?_
 have q6:QBJ r = m2 ++ tl6 r:=by rw [q5,hln,tl5]; simp
 clear hlen hln q5
 simp +decide -dsimp -implicitDefEqProofs [go_sem]
 have hlen:=congrArg List.length q6
 simp only [tl6,List.length_append] at hlen
 refine QF4 (b:=77) (ts:=r.load) (by omega) (by omega) fun m3 hln=>?_
 have q7:QBJ r = m3 ++ tl7 r:=by rw [q6,hln,tl6]; simp
 clear hlen hln q6
 simp +decide -dsimp -implicitDefEqProofs [go_sem]
 have hll:=hle _ ⟨_,q7⟩
 have hsx:=hsz.name
 refine QFM (b:=78) (s:=r.name) (by omega) fun n0 hln=>?_
 have q8:QBJ r = n0 ++ tl8 r:=by rw [q7,hln,tl7]; simp
 clear hln q7 hll hsx
 simp +decide -dsimp -implicitDefEqProofs [go_sem]
 have hll:=hle _ ⟨_,q8⟩
 have hsx:=hsz.owner
 refine QFM (b:=79) (s:=r.owner) (by omega) fun n1 hln=>?_
 have q9:QBJ r = n1 ++ tl9 r:=by rw [q8,hln,tl8]; simp
 clear hln q8 hll hsx
 simp +decide -dsimp -implicitDefEqProofs [go_sem]
 have hll:=hle _ ⟨_,q9⟩
 have hsx:=hsz.group
 refine QFM (b:=81) (s:=r.group) (by omega) fun n2 hln=>?_
 have q10:QBJ r = n2 ++ QPp r:=by rw [q9,hln,tl9]; simp
 clear hln q9 hll hsx
 simp +decide -dsimp -implicitDefEqProofs [go_sem]
 refine QAA (QLn (b:=10) (QRh r.prio (by have:=hni.prio; omega) (by have:=hni.prio; omega))) rfl rfl ?_
 simp +decide -dsimp -implicitDefEqProofs [go_sem]
 have hll:=hle _ ⟨_,q10⟩
 have hsx:(QDE 10 r.prio).length ≤ 11:=QDb (by decide) (by decide) (by have:=hni.prio; omega)
 refine QFM (b:=89) (s:=QDE 10 r.prio) (by omega) fun n3 hln=>?_
 have q11:QBJ r = n3 ++ QPo r:=by rw [q10,hln,QPp]; simp
 clear hln q10 hll hsx
 simp +decide -dsimp -implicitDefEqProofs [go_sem]
 refine QAA (QLn (b:=8) (QQm r.mode (by have:=hni.mode; omega) (by have:=hni.mode; omega))) rfl rfl ?_
 simp +decide -dsimp -implicitDefEqProofs [go_sem]
 have hll:=hle _ ⟨_,q11⟩
 have hsx:(QDE 8 r.mode).length ≤ 11:=QDb (by decide) (by decide) (by have:=hni.mode; omega)
 refine QFM (b:=88) (s:=QDE 8 r.mode) (by omega) fun n4 hln=>?_
 have q12:QBJ r = n4 ++ QUZ:=by rw [q11,hln,QPo]; simp
 clear hln q11 hll hsx
 simp +decide -dsimp -implicitDefEqProofs [go_sem]
 have hll:=hle _ ⟨_,q12⟩
 refine QRi (s:=[46,10]) (by simp; omega) fun l' hl'=>?_
 have q13:l' = QBJ r:=by rw [q12,hl']; rfl
 simp +decide -dsimp -implicitDefEqProofs [go_sem]
 refine QPM (by rw [hl']; simp) ?_
 rw [q13]
 simp +decide -dsimp -implicitDefEqProofs [go_sem]
end Go.Ab
namespace Go.Ab
open Go Go.Proofs
def pr2 (r:Rcd):List UInt8:=QBT 80 r.path ++ QBT 73 (QBA 10 r.index)
def pr3 (r:Rcd):List UInt8:=pr2 r ++ QAQ 69 (r.props.map QCo)
def pr4 (r:Rcd):List UInt8:=pr3 r ++ QAQ 71 r.tags
def pr5 (r:Rcd):List UInt8:=pr4 r ++ QAQ 76 r.links
def pr6 (r:Rcd):List UInt8:=pr5 r ++ QAQ 82 r.run
def pr7 (r:Rcd):List UInt8:=pr6 r ++ QAQ 77 r.load
def pr8 (r:Rcd):List UInt8:=pr7 r ++ QAj 78 r.name
def pr9 (r:Rcd):List UInt8:=pr8 r ++ QAj 79 r.owner
def QTO (r:Rcd):List UInt8:=pr9 r ++ QAj 81 r.group
def QTP (r:Rcd):List UInt8:=QTO r ++ QAj 89 (QDE 10 r.prio)
def QUH (r:Rcd):List UInt8:=QTP r ++ QAj 88 (QDE 8 r.mode)
theorem QUI (r:Rcd):QBJ r = pr2 r ++ tl2 r:=by rw [QQ3,pr2,tl1]; simp
theorem QQn (r:Rcd):QBJ r = pr3 r ++ tl3 r:=by rw [QUI,pr3,tl2]; simp
theorem QQo (r:Rcd):QBJ r = pr4 r ++ tl4 r:=by rw [QQn,pr4,tl3]; simp
theorem QQp (r:Rcd):QBJ r = pr5 r ++ tl5 r:=by rw [QQo,pr5,tl4]; simp
theorem QQq (r:Rcd):QBJ r = pr6 r ++ tl6 r:=by rw [QQp,pr6,tl5]; simp
theorem QNP (r:Rcd):QBJ r = pr7 r ++ tl7 r:=by rw [QQq,pr7,tl6]; simp
theorem QQr (r:Rcd):QBJ r = pr8 r ++ tl8 r:=by rw [QNP,pr8,tl7]; simp
theorem QQs (r:Rcd):QBJ r = pr9 r ++ tl9 r:=by rw [QQr,pr9,tl8]; simp
theorem QNQ (r:Rcd):QBJ r = QTO r ++ QPp r:=by rw [QQs,QTO,tl9]; simp
theorem QNR (r:Rcd):QBJ r = QTP r ++ QPo r:=by rw [QNQ,QTP,QPp]; simp
theorem QNS (r:Rcd):QBJ r = QUH r ++ QUZ:=by rw [QNR,QUH,QPo]; simp
theorem QEL {r:Rcd} (h:QAb r = true) {l t:List UInt8} (e:QBJ r = l ++ t):l.length ≤ 40000:=by
 have h1:=QC7 h
 have h2:=congrArg List.length e
 rw [List.length_append] at h2; omega
theorem QCS {b:UInt8} {l:List (List UInt8)} (i:Nat):(QAQ b (l.take i)).length ≤ (QAQ b l).length:=QJn i

theorem QQt (r:Rcd) (hS:QAb r = true):ACalls Tryz.prog 115 [.agg (QAU r)] [] (.str (QBJ r)) []:=by
 refine QBw c115_ok rfl ?_
 unfold c115
 have hsz:=QBf hS
 have hni:=QFD hS
 have z1:=hsz.props; have z2:=hsz.tags; have z3:=hsz.links; have z4:=hsz.runs; have z5:=hsz.loads
 have a1:(QBA 10 r.index).length ≤ 11:=QEk (by decide) (by decide) (by have:=hni.index; omega)
 have a2:(QDE 10 r.prio).length ≤ 11:=QDb (by decide) (by decide) (by have:=hni.prio; omega)
 have a3:(QDE 8 r.mode).length ≤ 11:=QDb (by decide) (by decide) (by have:=hni.mode; omega)
 refine QAL ⟨tmps 156 [(1,.ptr 0 0)],[.box 34 (QAU r)]⟩ (QAJ ?_) (QAL ⟨tmps 156 [(1,.ptr 0 0),(3,.str (pr2 r))],[.box 34 (QAU r)]⟩ (QAJ ?_) ( QAL ⟨tmps 156 [(1,.ptr 0 0),(3,.str (pr3 r))],[.box 34 (QAU r)]⟩ (QAJ ?_) ( QAL ⟨tmps 156 [(1,.ptr 0 0),(3,.str (pr4 r))],[.box 34 (QAU r)]⟩ (QAJ ?_) ( QAL ⟨tmps 156 [(1,.ptr 0 0),(3,.str (pr5 r))],[.box 34 (QAU r)]⟩ (QAJ ?_) ( QAL ⟨tmps 156 [(1,.ptr 0 0),(3,.str (pr6 r))],[.box 34 (QAU r)]⟩ (QAJ ?_) ( QAL ⟨tmps 156 [(1,.ptr 0 0),(3,.str (pr7 r))],[.box 34 (QAU r)]⟩ (QAJ ?_) ( QAL ⟨tmps 156 [(1,.ptr 0 0),(3,.str (pr8 r))],[.box 34 (QAU r)]⟩ (QAJ ?_) ( QAL ⟨tmps 156 [(1,.ptr 0 0),(3,.str (pr9 r))],[.box 34 (QAU r)]⟩ (QAJ ?_) ( QAL ⟨tmps 156 [(1,.ptr 0 0),(3,.str (QTO r))],[.box 34 (QAU r)]⟩ (QAJ ?_) ( QAL ⟨tmps 156 [(1,.ptr 0 0),(3,.str (QTP r))],[.box 34 (QAU r)]⟩ (QAJ ?_) ( QAL ⟨tmps 156 [(1,.ptr 0 0),(3,.str (QUH r))],[.box 34 (QAU r)]⟩ (QAJ ?_) (QAJ ?_))))))))))))
 ·unfold QAU
  simp +decide -dsimp -implicitDefEqProofs [go_sem]
  refine QAH (by simp) ?_
  simp +decide -dsimp -implicitDefEqProofs [go_sem]
 ·have hp:=hsz.path
  unfold QAU
  simp +decide -dsimp -implicitDefEqProofs [go_sem]
  refine ⟨by omega,by omega,?_⟩
  refine QAO (QNM r.index (by have:=hni.index; omega) (by have:=hni.index; omega)) rfl rfl ?_
  simp +decide -dsimp -implicitDefEqProofs [go_sem]
  refine ⟨by omega,by omega,?_⟩
  refine QAH (by simp) ?_
  simp +decide -dsimp -implicitDefEqProofs [go_sem,pr2,QBT]
 ·simp +decide -dsimp -implicitDefEqProofs [go_sem]
  refine QAR (S:=Nat × List UInt8) (fun s=>⟨tmps 156 [(1,.ptr 0 0),(3,.str s.2),(4,.int .i64 s.1)],[.box 34 (QAU r)]⟩) (fun s=>r.props.length - s.1)
   (fun s=>s.1 ≤ r.props.length ∧ s.2 = pr2 r ++ QAQ 69 ((r.props.take s.1).map QCo)) (0,pr2 r) (by simp [QAQ]) (QAD (by simp) ?_) ?_
  ·unfold QAU; simp +decide -dsimp -implicitDefEqProofs [go_sem]
  rintro ⟨i,l⟩ ⟨hi,hl⟩
  simp only at hi hl
  by_cases h:i < r.props.length
  ·have w:IntKind.i64.wrap ((i:Int) + 1) = i + 1:=w64 (by omega) (by omega)
   have hat:=hsz.attr _ (List.getElem_mem h)
   have hnext:l ++ QAQ 69 [QCo r.props[i]] = pr2 r ++ QAQ 69 ((r.props.take (i + 1)).map QCo):=by
    rw [hl,List.take_succ_eq_append_getElem h,List.map_append,List.append_assoc]
    congr 1
    simp [QAQ]
   have hll:l.length ≤ 40000:=by
    have h1:=QEL hS (QQn r)
    have h2:=QCS (b:=69) (l:=r.props.map QCo) i
    rw [← List.map_take] at h2
    rw [hl]
    simp only [pr3,List.length_append] at h1 ⊢
    omega
   unfold QAU
   simp +decide -dsimp -implicitDefEqProofs [go_sem,h]
   have el:∀ x,QBT 69 x = 69 :: 58 :: (x ++ [10]):=fun x=>by simp [QBT]
   simp +decide -dsimp -implicitDefEqProofs [go_sem,w]
   refine ⟨by omega,by omega,by omega,by omega,by omega,?_⟩
   refine QAI (i + 1,l ++ QAQ 69 [QCo r.props[i]]) ⟨by show i + 1 ≤ _; omega,hnext⟩ (by show _ - (i + 1) < _ - i; omega) (QAD (by simp) ?_)
   simp +decide -dsimp -implicitDefEqProofs [go_sem,QAQ,QBT,QCo]
  ·have ei:i = r.props.length:=by omega
   subst ei
   rw [List.take_length] at hl
   subst hl
   unfold QAU
   simp +decide -dsimp -implicitDefEqProofs [go_sem]
   refine QAH (by simp) ?_
   simp +decide -dsimp -implicitDefEqProofs [go_sem,pr3]
 ·simp +decide -dsimp -implicitDefEqProofs [go_sem]
  refine QAR (S:=Nat × List UInt8) (fun s=>⟨tmps 156 [(1,.ptr 0 0),(3,.str s.2),(5,.int .i64 s.1)],[.box 34 (QAU r)]⟩) (fun s=>r.tags.length - s.1)
   (fun s=>s.1 ≤ r.tags.length ∧ s.2 = pr3 r ++ QAQ 71 (r.tags.take s.1)) (0,pr3 r) (by simp [QAQ]) (QAD (by simp) ?_) ?_
  ·unfold QAU; simp +decide -dsimp -implicitDefEqProofs [go_sem]
  rintro ⟨i,l⟩ ⟨hi,hl⟩
  simp only at hi hl
  by_cases h:i < r.tags.length
  ·have w:IntKind.i64.wrap ((i:Int) + 1) = i + 1:=w64 (by omega) (by omega)
   have hat:=hsz.tag _ (List.getElem_mem h)
   have hnext:l ++ QAQ 71 [r.tags[i]] = pr3 r ++ QAQ 71 (r.tags.take (i + 1)):=by
    rw [hl,QCd h,List.append_assoc]
    congr 1
    simp [QAQ]
   have hll:l.length ≤ 40000:=by
    have h1:=QEL hS (QQo r)
    have h2:=QCS (b:=71) (l:=r.tags) i
    rw [hl]
    simp only [pr4,List.length_append] at h1 ⊢
    omega
   unfold QAU
   simp +decide -dsimp -implicitDefEqProofs [go_sem,h,w]
   refine ⟨by omega,by omega,by omega,?_⟩
   refine QAI (i + 1,l ++ QAQ 71 [r.tags[i]]) ⟨by show i + 1 ≤ _; omega,hnext⟩ (by show _ - (i + 1) < _ - i; omega) (QAD (by simp) ?_)
   simp +decide -dsimp -implicitDefEqProofs [go_sem,QAQ,QBT]
  ·have ei:i = r.tags.length:=by omega
   subst ei
   rw [List.take_length] at hl
   subst hl
   unfold QAU
   simp +decide -dsimp -implicitDefEqProofs [go_sem]
   refine QAH (by simp) ?_
   simp +decide -dsimp -implicitDefEqProofs [go_sem,pr4]
 ·simp +decide -dsimp -implicitDefEqProofs [go_sem]
  refine QAR (S:=Nat × List UInt8) (fun s=>⟨tmps 156 [(1,.ptr 0 0),(3,.str s.2),(6,.int .i64 s.1)],[.box 34 (QAU r)]⟩) (fun s=>r.links.length - s.1)
   (fun s=>s.1 ≤ r.links.length ∧ s.2 = pr4 r ++ QAQ 76 (r.links.take s.1)) (0,pr4 r) (by simp [QAQ]) (QAD (by simp) ?_) ?_
  ·unfold QAU; simp +decide -dsimp -implicitDefEqProofs [go_sem]
  rintro ⟨i,l⟩ ⟨hi,hl⟩
  simp only at hi hl
  by_cases h:i < r.links.length
  ·have w:IntKind.i64.wrap ((i:Int) + 1) = i + 1:=w64 (by omega) (by omega)
   have hat:=hsz.link _ (List.getElem_mem h)
   have hnext:l ++ QAQ 76 [r.links[i]] = pr4 r ++ QAQ 76 (r.links.take (i + 1)):=by
    rw [hl,QCd h,List.append_assoc]
    congr 1
    simp [QAQ]
   have hll:l.length ≤ 40000:=by
    have h1:=QEL hS (QQp r)
    have h2:=QCS (b:=76) (l:=r.links) i
    rw [hl]
    simp only [pr5,List.length_append] at h1 ⊢
    omega
   unfold QAU
   simp +decide -dsimp -implicitDefEqProofs [go_sem,h,w]
   refine ⟨by omega,by omega,by omega,?_⟩
   refine QAI (i + 1,l ++ QAQ 76 [r.links[i]]) ⟨by show i + 1 ≤ _; omega,hnext⟩ (by show _ - (i + 1) < _ - i; omega) (QAD (by simp) ?_)
   simp +decide -dsimp -implicitDefEqProofs [go_sem,QAQ,QBT]
  ·have ei:i = r.links.length:=by omega
   subst ei
   rw [List.take_length] at hl
   subst hl
   unfold QAU
   simp +decide -dsimp -implicitDefEqProofs [go_sem]
   refine QAH (by simp) ?_
   simp +decide -dsimp -implicitDefEqProofs [go_sem,pr5]
 ·simp +decide -dsimp -implicitDefEqProofs [go_sem]
  refine QAR (S:=Nat × List UInt8) (fun s=>⟨tmps 156 [(1,.ptr 0 0),(3,.str s.2),(7,.int .i64 s.1)],[.box 34 (QAU r)]⟩) (fun s=>r.run.length - s.1)
   (fun s=>s.1 ≤ r.run.length ∧ s.2 = pr5 r ++ QAQ 82 (r.run.take s.1)) (0,pr5 r) (by simp [QAQ]) (QAD (by simp) ?_) ?_
  ·unfold QAU; simp +decide -dsimp -implicitDefEqProofs [go_sem]
  rintro ⟨i,l⟩ ⟨hi,hl⟩
  simp only at hi hl
  by_cases h:i < r.run.length
  ·have w:IntKind.i64.wrap ((i:Int) + 1) = i + 1:=w64 (by omega) (by omega)
   have hat:=hsz.run _ (List.getElem_mem h)
   have hnext:l ++ QAQ 82 [r.run[i]] = pr5 r ++ QAQ 82 (r.run.take (i + 1)):=by
    rw [hl,QCd h,List.append_assoc]
    congr 1
    simp [QAQ]
   have hll:l.length ≤ 40000:=by
    have h1:=QEL hS (QQq r)
    have h2:=QCS (b:=82) (l:=r.run) i
    rw [hl]
    simp only [pr6,List.length_append] at h1 ⊢
    omega
   unfold QAU
   simp +decide -dsimp -implicitDefEqProofs [go_sem,h,w]
   refine ⟨by omega,by omega,by omega,?_⟩
   refine QAI (i + 1,l ++ QAQ 82 [r.run[i]]) ⟨by show i + 1 ≤ _; omega,hnext⟩ (by show _ - (i + 1) < _ - i; omega) (QAD (by simp) ?_)
   simp +decide -dsimp -implicitDefEqProofs [go_sem,QAQ,QBT]
  ·have ei:i = r.run.length:=by omega
   subst ei
   rw [List.take_length] at hl
   subst hl
   unfold QAU
   simp +decide -dsimp -implicitDefEqProofs [go_sem]
   refine QAH (by simp) ?_
   simp +decide -dsimp -implicitDefEqProofs [go_sem,pr6]
 ·simp +decide -dsimp -implicitDefEqProofs [go_sem]
  refine QAR (S:=Nat × List UInt8) (fun s=>⟨tmps 156 [(1,.ptr 0 0),(3,.str s.2),(8,.int .i64 s.1)],[.box 34 (QAU r)]⟩) (fun s=>r.load.length - s.1)
   (fun s=>s.1 ≤ r.load.length ∧ s.2 = pr6 r ++ QAQ 77 (r.load.take s.1)) (0,pr6 r) (by simp [QAQ]) (QAD (by simp) ?_) ?_
  ·unfold QAU; simp +decide -dsimp -implicitDefEqProofs [go_sem]
  rintro ⟨i,l⟩ ⟨hi,hl⟩
  simp only at hi hl
  by_cases h:i < r.load.length
  ·have w:IntKind.i64.wrap ((i:Int) + 1) = i + 1:=w64 (by omega) (by omega)
   have hat:=hsz.load _ (List.getElem_mem h)
   have hnext:l ++ QAQ 77 [r.load[i]] = pr6 r ++ QAQ 77 (r.load.take (i + 1)):=by
    rw [hl,QCd h,List.append_assoc]
    congr 1
    simp [QAQ]
   have hll:l.length ≤ 40000:=by
    have h1:=QEL hS (QNP r)
    have h2:=QCS (b:=77) (l:=r.load) i
    rw [hl]
    simp only [pr7,List.length_append] at h1 ⊢
    omega
   unfold QAU
   simp +decide -dsimp -implicitDefEqProofs [go_sem,h,w]
   refine ⟨by omega,by omega,by omega,?_⟩
   refine QAI (i + 1,l ++ QAQ 77 [r.load[i]]) ⟨by show i + 1 ≤ _; omega,hnext⟩ (by show _ - (i + 1) < _ - i; omega) (QAD (by simp) ?_)
   simp +decide -dsimp -implicitDefEqProofs [go_sem,QAQ,QBT]
  ·have ei:i = r.load.length:=by omega
   subst ei
   rw [List.take_length] at hl
   subst hl
   unfold QAU
   simp +decide -dsimp -implicitDefEqProofs [go_sem]
   refine QAH (by simp) ?_
   simp +decide -dsimp -implicitDefEqProofs [go_sem,pr7]
 ·have hlp:=QEL hS (QNP r)
  have:=hsz.name
  unfold QAU
  by_cases h:r.name = []
  ·simp +decide -dsimp -implicitDefEqProofs [go_sem,h]
   refine QAH (by simp) ?_
   simp +decide -dsimp -implicitDefEqProofs [go_sem,pr8,h,QAj]
  ·simp +decide -dsimp -implicitDefEqProofs [go_sem,h]
   refine ⟨by omega,by omega,by omega,?_⟩
   refine QAH (by simp) ?_
   simp +decide -dsimp -implicitDefEqProofs [go_sem,pr8,h,QAj,QBT]
 ·have hlp:=QEL hS (QQr r)
  have:=hsz.owner
  unfold QAU
  by_cases h:r.owner = []
  ·simp +decide -dsimp -implicitDefEqProofs [go_sem,h]
   refine QAH (by simp) ?_
   simp +decide -dsimp -implicitDefEqProofs [go_sem,pr9,h,QAj]
  ·simp +decide -dsimp -implicitDefEqProofs [go_sem,h]
   refine ⟨by omega,by omega,by omega,?_⟩
   refine QAH (by simp) ?_
   simp +decide -dsimp -implicitDefEqProofs [go_sem,pr9,h,QAj,QBT]
 ·have hlp:=QEL hS (QQs r)
  have:=hsz.group
  unfold QAU
  by_cases h:r.group = []
  ·simp +decide -dsimp -implicitDefEqProofs [go_sem,h]
   refine QAH (by simp) ?_
   simp +decide -dsimp -implicitDefEqProofs [go_sem,QTO,h,QAj]
  ·simp +decide -dsimp -implicitDefEqProofs [go_sem,h]
   refine ⟨by omega,by omega,by omega,?_⟩
   refine QAH (by simp) ?_
   simp +decide -dsimp -implicitDefEqProofs [go_sem,QTO,h,QAj,QBT]
 ·have hlp:=QEL hS (QNQ r)
  unfold QAU
  by_cases h:r.prio = 0
  ·simp +decide -dsimp -implicitDefEqProofs [go_sem,h]
   refine QAH (by simp) ?_
   simp +decide -dsimp -implicitDefEqProofs [go_sem,QTP,h,QDE,QAj]
  ·simp +decide -dsimp -implicitDefEqProofs [go_sem,h]
   refine QAA (QNM r.prio (by have:=hni.prio; omega) (by have:=hni.prio; omega)) rfl rfl ?_
   have en:QDE 10 r.prio = QBA 10 r.prio:=by rw [QDE,if_neg h]
   have ef:QAj 89 (QDE 10 r.prio) = QBT 89 (QBA 10 r.prio):=by rw [QAj,en,if_neg (QEr (by decide) (by decide) _)]
   rw [en] at a2
   simp +decide -dsimp -implicitDefEqProofs [go_sem]
   refine ⟨by omega,by omega,by omega,?_⟩
   refine QAH (by simp) ?_
   simp +decide -dsimp -implicitDefEqProofs [go_sem,QTP,ef,QBT]
 ·have hlp:=QEL hS (QNR r)
  unfold QAU
  by_cases h:r.mode = 0
  ·simp +decide -dsimp -implicitDefEqProofs [go_sem,h]
   refine QAH (by simp) ?_
   simp +decide -dsimp -implicitDefEqProofs [go_sem,QUH,h,QDE,QAj]
  ·simp +decide -dsimp -implicitDefEqProofs [go_sem,h]
   refine QAA (QQm r.mode (by have:=hni.mode; omega) (by have:=hni.mode; omega)) rfl rfl ?_
   have en:QDE 8 r.mode = QBA 8 r.mode:=by rw [QDE,if_neg h]
   have ef:QAj 88 (QDE 8 r.mode) = QBT 88 (QBA 8 r.mode):=by rw [QAj,en,if_neg (QEr (by decide) (by decide) _)]
   rw [en] at a3
   simp +decide -dsimp -implicitDefEqProofs [go_sem]
   refine ⟨by omega,by omega,by omega,?_⟩
   refine QAH (by simp) ?_
   simp +decide -dsimp -implicitDefEqProofs [go_sem,QUH,ef,QBT]
 ·have hlp:=QEL hS (QNS r)
  rw [QNS]
  simp +decide -dsimp -implicitDefEqProofs [go_sem]
  omega
theorem QJl (r:Rcd) (hf:Few r):ACalls Tryz.prog 70 [.agg (QAU r)] [] (.tup [.str (QKq r),.int .i64 (QJe r)]) []:=by
 refine QAF c70_ok rfl ?_
 unfold c70
 have c0:=QMZ r hf
 by_cases hS:QAb r = true
 ·have c1:=QQt r hS
  have e1:QKq r = QBJ r:=by simp [QKq,hS]
  have e2:QJe r = 0:=by simp [QJe,hS]
  rw [e1,e2]
  unfold QAU at c0 c1 ⊢
  simp +decide -dsimp -implicitDefEqProofs [go_sem]
  refine QAA c0 (by simp [go_sem]) rfl ?_
  simp +decide -dsimp -implicitDefEqProofs [go_sem,hS]
  refine QAA c1 (by simp [go_sem]) rfl ?_
  simp +decide -dsimp -implicitDefEqProofs [go_sem]
 ·have e1:QKq r = []:=by simp [QKq,hS]
  have e2:QJe r = 250:=by simp [QJe,hS]
  rw [e1,e2]
  unfold QAU at c0 ⊢
  simp +decide -dsimp -implicitDefEqProofs [go_sem]
  refine QAA c0 (by simp [go_sem]) rfl ?_
  simp +decide -dsimp -implicitDefEqProofs [go_sem,hS]
end Go.Ab
namespace Go.Ab
open Go Go.Proofs
theorem QII {r:Rcd} (h:QAb r = true):QJe r = 0 ∧ QKq r = QBJ r:=by simp [QJe,QKq,h]
theorem QA5 (is:List Nat) (r:Rcd):QDB is (QAU r) = QAU r:=by unfold QAU; simp +decide -dsimp -implicitDefEqProofs [go_sem,QBg,QD4]
theorem QAg (k:Nat) (r:Rcd):QAS k (QAU r) = true:=by unfold QAU; simp +decide -dsimp -implicitDefEqProofs [go_sem]
theorem QAN (r:Rcd):(QAU r).length = 12:=rfl
theorem QNT {r:Rcd} (h:¬ QAb r = true):QJe r = 250 ∧ QKq r = []:=by simp [QJe,QKq,h]
@[go_sem ↓] theorem QWB (r:Rcd) (K:AV → Prop):ldK (some 12) (QAU r) K = K (.agg (QAU r)):=by simp [ldK,QAU]
theorem QAP (r:Rcd):(QAU r).take 12 = QAU r:=rfl
theorem QBZ (k:Nat) (l:List Rcd):QAV k (l.map QAU) = true:=QAa fun x _=>QAg k x
theorem QIt (H:List AObj) (k:Nat) (r:Rcd):cvT H k (QAU r) (QAU r):=by unfold QAU; simp +decide -dsimp -implicitDefEqProofs [go_sem]
theorem QG8 {n:Nat} (h:n < 256):[AV.int .u8 (n:Int)] = QCX (UInt8.ofNat n):=by
 simp only [QCX,UInt8.toNat_ofNat']
 rw [Nat.mod_eq_of_lt h]
theorem QNU {n:Nat} (h:n < 256):unb [[AV.int .u8 (n:Int)]] = some [UInt8.ofNat n]:=by
 rw [QG8 h]; exact QGA [UInt8.ofNat n]
end Go.Ab
