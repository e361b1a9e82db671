/- Numerals as they are read: ParseUint. -/
import Derived.Test.YtpknaffdaemlbaaGreatDoorW4
import Derived.Test.YtpknaffdaemlbaaGreatDoorA5
set_option maxRecDepth 20000
set_option maxHeartbeats 1000000
namespace Go.Ab
open Go Go.Proofs
def QE4 (c:UInt8):Int:=bits .or .u8 c.toNat 32
theorem QCc (c:UInt8):ACalls Tryz.prog 237 [.int .u8 c.toNat] [] (.int .u8 (QE4 c)) []:=by
 refine QAF c237_ok rfl ?_
 unfold c237 QE4
 simp +decide -dsimp -implicitDefEqProofs [go_sem]
theorem QIp:ACalls Tryz.prog 237 [.int .u8 95] [] (.int .u8 127) []:=by
 have h:=QCc 95
 have e1:QE4 95 = 127:=by decide +kernel
 have e2:(((95:UInt8).toNat:Nat):Int) = 95:=rfl
 rw [e1,e2] at h
 exact h
def QKv (b:Nat) (s:List UInt8):Prop:=(∀ c ∈ s,48 ≤ c.toNat ∧ c.toNat < 48 + b) ∧ QDi b s < 9223372036854775808
theorem QKw {b:Nat} {s:List UInt8} (h:∀ c ∈ s,48 ≤ c.toNat):0 ≤ QDi b s:=by
 have key:∀ (s:List UInt8) (n:Int),0 ≤ n → (∀ c ∈ s,48 ≤ c.toNat) → 0 ≤ s.foldl (fun n c=>n * b + ((c.toNat:Int) - 48)) n:=by
  intro s
  induction s with
  | nil=>intro n h _; exact h
  | cons c s ih=>
   intro n hn h
   have:=h c (by simp)
   have h2:0 ≤ n * b:=Int.mul_nonneg hn (by omega)
   exact ih _ (by show 0 ≤ n * (b:Int) + ((c.toNat:Int) - 48); omega) fun x hx=>h x (by simp [hx])
 exact key s 0 (by omega) h
theorem QCL {b:Nat} (hb:1 ≤ b) {s:List UInt8} (h:∀ c ∈ s,48 ≤ c.toNat):∀ i,QDi b (s.take i) ≤ QDi b s:=by
 have key:∀ (t:List UInt8) (n:Int),0 ≤ n → (∀ c ∈ t,48 ≤ c.toNat) → n ≤ t.foldl (fun n c=>n * b + ((c.toNat:Int) - 48)) n:=by
  intro t
  induction t with
  | nil=>intro n _ _; simp
  | cons c t ih=>
   intro n hn h
   have:=h c (by simp)
   have h2:n * 1 ≤ n * b:=Int.mul_le_mul_of_nonneg_left (by omega) hn
   have h3:=ih (n * b + ((c.toNat:Int) - 48)) (by omega) fun x hx=>h x (by simp [hx])
   simp only [List.foldl_cons]
   omega
 intro i
 have e:QDi b s = (s.drop i).foldl (fun n c=>n * b + ((c.toNat:Int) - 48)) (QDi b (s.take i)):=by
  rw [QDi,QDi,← List.foldl_append,List.take_append_drop]
 rw [e]
 exact key _ _ (QKw fun c hc=>h c (List.mem_of_mem_take hc)) fun c hc=>h c (List.mem_of_mem_drop hc)
def puR (b:Nat) (s:List UInt8) (av:AV) (H:List AObj):Prop:=H = [] ∧ ∃ n e,av = .tup [.int .u64 n,e] ∧ 0 ≤ n ∧ n < 18446744073709551616 ∧
 (e = .raw .nilIface ∨ e = .raw (.iface 240 (.int .i64 1)) ∨ e = .raw (.iface 240 (.int .i64 2))) ∧ (s ≠ [] → QKv b s → n = QDi b s ∧ e = .raw .nilIface)
theorem QEJ {b:Nat} {s:List UInt8} {n:Int} {k:Int} (h0:0 ≤ n) (h1:n < 18446744073709551616) (hk:k = 1 ∨ k = 2) (h:¬ (s ≠ [] ∧ QKv b s)):puR b s (.tup [.int .u64 n,.raw (.iface 240 (.int .i64 k))]) []:=
 ⟨rfl,n,_,rfl,h0,h1,by rcases hk with rfl | rfl <;> simp,fun h2 h3=>(h ⟨h2,h3⟩).elim⟩

theorem QEK (s:List UInt8) (hl:s.length < 4294967281):ACallsR Tryz.prog 216 [.str s,.int .i64 8,.int .i64 64] [] (puR 8 s):=by
 refine QC0 (puR 8 s) 0 c216_ok ?_
 unfold c216
 have x1:IntKind.u64.wrap 18446744073709551616 = 0:=by decide
 have x2:IntKind.u64.wrap (-1) = 18446744073709551615:=by decide
 have x3:IntKind.u64.wrap 8 = 8:=by decide
 have x4:IntKind.u8.wrap 8 = 8:=by decide
 have x5:IntKind.u64.wrap 64 = 64:=by decide
 have x6:IntKind.u64.wrap 2305843009213693952 = 2305843009213693952:=by decide
 have x7:IntKind.u64.wrap 2305843009213693951 = 2305843009213693951:=by decide
 by_cases hs0:s = []
 ·subst hs0
  simp +decide -dsimp -implicitDefEqProofs [go_sem]
  refine QAT (.tup [.int .u64 0,.raw (.iface 240 (.int .i64 2))]) [] (QEJ (by decide) (by decide) (.inr rfl) fun h=>h.1 rfl) rfl ?_
  simp +decide -dsimp -implicitDefEqProofs [go_sem]
 simp +decide -dsimp -implicitDefEqProofs [go_sem,hs0,x1,x2,x3,x5,x6,x7]
 refine QAR (S:=Nat × Int) (fun t=>⟨tmps 172 [(0,.str s),(1,.int .i64 8),(8,.bool false),(9,.str s),(10,.int .u64 2305843009213693952),(11,.int .u64 18446744073709551615),(12,.bool false),(13,.int .u64 t.2),(99,.imm (s.map QCX)),(100,.int .i64 s.length),(101,.int .i64 t.1)],[]⟩) (fun t=>s.length - t.1)
  (fun t=>t.1 ≤ s.length ∧ 0 ≤ t.2 ∧ t.2 < 18446744073709551616 ∧ (QKv 8 s → t.2 = QDi 8 (s.take t.1))) (0,0) (by simp [QDi]) (QAD (by simp) ?_) ?_
 ·simp +decide -dsimp -implicitDefEqProofs [go_sem]
 rintro ⟨i,n⟩ ⟨hi,hn0,hn1,hg⟩
 simp only at hi hn0 hn1 hg
 by_cases h:i < s.length
 rotate_left
 ·have e:i = s.length:=by omega
  subst e
  simp +decide -dsimp -implicitDefEqProofs [go_sem]
  refine QAT (.tup [.int .u64 n,.raw .nilIface]) [] ⟨rfl,n,_,rfl,hn0,hn1,.inl rfl,fun _ h2=>⟨by rw [hg h2,List.take_length],rfl⟩⟩ rfl ?_
  simp +decide -dsimp -implicitDefEqProofs [go_sem]
 have w:IntKind.i64.wrap ((i:Int) + 1) = i + 1:=w64 (by omega) (by omega)
 have hmem:=List.getElem_mem h
 generalize hc:s[i] = c at hmem
 have hc256:c.toNat < 256:=c.toNat_lt
 have bad:∀ {m k:Int},0 ≤ m → m < 18446744073709551616 → (k = 1 ∨ k = 2) → ¬ (48 ≤ c.toNat ∧ c.toNat < 48 + 8) → puR 8 s (.tup [.int .u64 m,.raw (.iface 240 (.int .i64 k))]) []:=fun h0 h1 hk hx=>QEJ h0 h1 hk fun h2=>hx (h2.2.1 c hmem)
 have c95:(c.toNat:Int) = 95 → ¬ (48 ≤ c.toNat ∧ c.toNat < 48 + 8):=fun e=>by omega
 by_cases h48:(48:Int) ≤ c.toNat
 ·by_cases h57:(c.toNat:Int) ≤ 57
  ·-- a digit
   have d1:IntKind.u8.wrap ((c.toNat:Int) - 48) = c.toNat - 48:=by rw [IntKind.wrap_u8]; omega
   have hne:¬ (c.toNat:Int) = 95:=by omega
   by_cases hd:8 ≤ (c.toNat:Int) - 48
   ·simp +decide -dsimp -implicitDefEqProofs [go_sem,h,hc,hne,h48,h57,d1,x4,hd]
    refine QAT (.tup [.int .u64 0,.raw (.iface 240 (.int .i64 2))]) [] (bad (m:=0) (k:=2) (by decide) (by decide) (.inr rfl) (by omega)) rfl ?_
    simp +decide -dsimp -implicitDefEqProofs [go_sem]
   by_cases hcut:2305843009213693952 ≤ n
   ·simp +decide -dsimp -implicitDefEqProofs [go_sem,h,hc,hne,h48,h57,d1,x4,hd,hcut]
    refine QAT (.tup [.int .u64 18446744073709551615,.raw (.iface 240 (.int .i64 1))]) [] (QEJ (n:=18446744073709551615) (k:=1) (by decide) (by decide) (.inl rfl) fun h2=>?_) rfl ?_
    ·have h3:=hg h2.2
     have h4:=QCL (b:=8) (by decide) (fun c hc=>(h2.2.1 c hc).1) i
     have h5:=QCL (b:=8) (by decide) (fun c hc=>(h2.2.1 c hc).1) (i + 1)
     rw [List.take_succ_eq_append_getElem h,QDF,hc] at h5
     have h6:=h2.2.2
     have h7:=(h2.2.1 c hmem).1
     omega
    simp +decide -dsimp -implicitDefEqProofs [go_sem]
   have w1:IntKind.u64.wrap (n * 8) = n * 8:=QNN (by omega) (by omega)
   have w2:IntKind.u64.wrap ((c.toNat:Int) - 48) = c.toNat - 48:=QNN (by omega) (by omega)
   have gi:QKv 8 s → n * 8 + ((c.toNat:Int) - 48) = QDi 8 (s.take (i + 1)):=fun h2=>by
    rw [List.take_succ_eq_append_getElem h,QDF,hc,hg h2]; rfl
   by_cases hov:n * 8 + ((c.toNat:Int) - 48) < 18446744073709551616
   ·have w3:IntKind.u64.wrap (n * 8 + ((c.toNat:Int) - 48)) = n * 8 + ((c.toNat:Int) - 48):=QNN (by omega) hov
    have q1:¬ n * 8 + ((c.toNat:Int) - 48) < n * 8:=by omega
    have q2:¬ (18446744073709551615:Int) < n * 8 + ((c.toNat:Int) - 48):=by omega
    simp +decide -dsimp -implicitDefEqProofs [go_sem,h,hc,hne,h48,h57,d1,x3,x4,hd,hcut,w1,w2,w3,q1,q2,w]
    refine QAI (i + 1,n * 8 + ((c.toNat:Int) - 48)) ⟨by show i + 1 ≤ _; omega,by show 0 ≤ _; omega,hov,gi⟩ (by show _ - (i + 1) < _ - i; omega) (QAD (by simp) ?_)
    simp +decide -dsimp -implicitDefEqProofs [go_sem]
   ·have w3:IntKind.u64.wrap (n * 8 + ((c.toNat:Int) - 48)) = n * 8 + ((c.toNat:Int) - 48) - 18446744073709551616:=by rw [IntKind.wrap_u64]; omega
    have q1:n * 8 + ((c.toNat:Int) - 48) - 18446744073709551616 < n * 8:=by omega
    simp +decide -dsimp -implicitDefEqProofs [go_sem,h,hc,hne,h48,h57,d1,x3,x4,hd,hcut,w1,w2,w3,q1]
    refine QAT (.tup [.int .u64 18446744073709551615,.raw (.iface 240 (.int .i64 1))]) [] (QEJ (n:=18446744073709551615) (k:=1) (by decide) (by decide) (.inl rfl) fun h2=>?_) rfl ?_
    ·have h3:=gi h2.2
     have h4:=QCL (b:=8) (by decide) (fun c hc=>(h2.2.1 c hc).1) (i + 1)
     have h6:=h2.2.2
     omega
    simp +decide -dsimp -implicitDefEqProofs [go_sem]
  ·-- above the digits
   have hx:¬ (48 ≤ c.toNat ∧ c.toNat < 48 + 8):=by omega
   by_cases hne:(c.toNat:Int) = 95
   ·simp +decide -dsimp -implicitDefEqProofs [go_sem,h,hc,hne]
    refine QAA QIp rfl rfl ?_
    simp +decide -dsimp -implicitDefEqProofs [go_sem]
    refine QAA QIp rfl rfl ?_
    simp +decide -dsimp -implicitDefEqProofs [go_sem]
    refine QAT (.tup [.int .u64 0,.raw (.iface 240 (.int .i64 2))]) [] (bad (m:=0) (k:=2) (by decide) (by decide) (.inr rfl) hx) rfl ?_
    simp +decide -dsimp -implicitDefEqProofs [go_sem]
   simp +decide -dsimp -implicitDefEqProofs [go_sem,h,hc,hne,h48,h57]
   refine QAA (QCc c) rfl rfl ?_
   by_cases h97:97 ≤ QE4 c
   ·simp +decide -dsimp -implicitDefEqProofs [go_sem,h97]
    refine QAA (QCc c) rfl rfl ?_
    by_cases h122:QE4 c ≤ 122
    ·have d1:IntKind.u8.wrap (QE4 c - 97) = QE4 c - 97:=by rw [IntKind.wrap_u8]; omega
     have d2:IntKind.u8.wrap (QE4 c - 97 + 10) = QE4 c - 97 + 10:=by rw [IntKind.wrap_u8]; omega
     have d3:8 ≤ QE4 c - 97 + 10:=by omega
     simp +decide -dsimp -implicitDefEqProofs [go_sem,h122]
     refine QAA (QCc c) rfl rfl ?_
     simp +decide -dsimp -implicitDefEqProofs [go_sem,d1,d2,d3,x4]
     refine QAT (.tup [.int .u64 0,.raw (.iface 240 (.int .i64 2))]) [] (bad (m:=0) (k:=2) (by decide) (by decide) (.inr rfl) hx) rfl ?_
     simp +decide -dsimp -implicitDefEqProofs [go_sem]
    ·simp +decide -dsimp -implicitDefEqProofs [go_sem,h122]
     refine QAT (.tup [.int .u64 0,.raw (.iface 240 (.int .i64 2))]) [] (bad (m:=0) (k:=2) (by decide) (by decide) (.inr rfl) hx) rfl ?_
     simp +decide -dsimp -implicitDefEqProofs [go_sem]
   ·simp +decide -dsimp -implicitDefEqProofs [go_sem,h97]
    refine QAT (.tup [.int .u64 0,.raw (.iface 240 (.int .i64 2))]) [] (bad (m:=0) (k:=2) (by decide) (by decide) (.inr rfl) hx) rfl ?_
    simp +decide -dsimp -implicitDefEqProofs [go_sem]
 ·have hx:¬ (48 ≤ c.toNat ∧ c.toNat < 48 + 8):=by omega
  have hne:¬ (c.toNat:Int) = 95:=by omega
  simp +decide -dsimp -implicitDefEqProofs [go_sem,h,hc,hne,h48]
  refine QAA (QCc c) rfl rfl ?_
  by_cases h97:97 ≤ QE4 c
  ·simp +decide -dsimp -implicitDefEqProofs [go_sem,h97]
   refine QAA (QCc c) rfl rfl ?_
   by_cases h122:QE4 c ≤ 122
   ·have d1:IntKind.u8.wrap (QE4 c - 97) = QE4 c - 97:=by rw [IntKind.wrap_u8]; omega
    have d2:IntKind.u8.wrap (QE4 c - 97 + 10) = QE4 c - 97 + 10:=by rw [IntKind.wrap_u8]; omega
    have d3:8 ≤ QE4 c - 97 + 10:=by omega
    simp +decide -dsimp -implicitDefEqProofs [go_sem,h122]
    refine QAA (QCc c) rfl rfl ?_
    simp +decide -dsimp -implicitDefEqProofs [go_sem,d1,d2,d3,x4]
    refine QAT (.tup [.int .u64 0,.raw (.iface 240 (.int .i64 2))]) [] (bad (m:=0) (k:=2) (by decide) (by decide) (.inr rfl) hx) rfl ?_
    simp +decide -dsimp -implicitDefEqProofs [go_sem]
   ·simp +decide -dsimp -implicitDefEqProofs [go_sem,h122]
    refine QAT (.tup [.int .u64 0,.raw (.iface 240 (.int .i64 2))]) [] (bad (m:=0) (k:=2) (by decide) (by decide) (.inr rfl) hx) rfl ?_
    simp +decide -dsimp -implicitDefEqProofs [go_sem]
  ·simp +decide -dsimp -implicitDefEqProofs [go_sem,h97]
   refine QAT (.tup [.int .u64 0,.raw (.iface 240 (.int .i64 2))]) [] (bad (m:=0) (k:=2) (by decide) (by decide) (.inr rfl) hx) rfl ?_
   simp +decide -dsimp -implicitDefEqProofs [go_sem]

theorem QDu (s:List UInt8) (hl:s.length < 4294967281):ACallsR Tryz.prog 216 [.str s,.int .i64 10,.int .i64 64] [] (puR 10 s):=by
 refine QC0 (puR 10 s) 0 c216_ok ?_
 unfold c216
 have x1:IntKind.u64.wrap 18446744073709551616 = 0:=by decide
 have x2:IntKind.u64.wrap (-1) = 18446744073709551615:=by decide
 have x3:IntKind.u64.wrap 10 = 10:=by decide
 have x4:IntKind.u8.wrap 10 = 10:=by decide
 have x5:IntKind.u64.wrap 64 = 64:=by decide
 have x6:IntKind.u64.wrap 1844674407370955162 = 1844674407370955162:=by decide
 have x7:IntKind.u64.wrap 1844674407370955161 = 1844674407370955161:=by decide
 by_cases hs0:s = []
 ·subst hs0
  simp +decide -dsimp -implicitDefEqProofs [go_sem]
  refine QAT (.tup [.int .u64 0,.raw (.iface 240 (.int .i64 2))]) [] (QEJ (by decide) (by decide) (.inr rfl) fun h=>h.1 rfl) rfl ?_
  simp +decide -dsimp -implicitDefEqProofs [go_sem]
 simp +decide -dsimp -implicitDefEqProofs [go_sem,hs0,x1,x2,x5]
 refine QAR (S:=Nat × Int) (fun t=>⟨tmps 172 [(0,.str s),(1,.int .i64 10),(8,.bool false),(9,.str s),(10,.int .u64 1844674407370955162),(11,.int .u64 18446744073709551615),(12,.bool false),(13,.int .u64 t.2),(99,.imm (s.map QCX)),(100,.int .i64 s.length),(101,.int .i64 t.1)],[]⟩) (fun t=>s.length - t.1)
  (fun t=>t.1 ≤ s.length ∧ 0 ≤ t.2 ∧ t.2 < 18446744073709551616 ∧ (QKv 10 s → t.2 = QDi 10 (s.take t.1))) (0,0) (by simp [QDi]) (QAD (by simp) ?_) ?_
 ·simp +decide -dsimp -implicitDefEqProofs [go_sem]
 rintro ⟨i,n⟩ ⟨hi,hn0,hn1,hg⟩
 simp only at hi hn0 hn1 hg
 by_cases h:i < s.length
 rotate_left
 ·have e:i = s.length:=by omega
  subst e
  simp +decide -dsimp -implicitDefEqProofs [go_sem]
  refine QAT (.tup [.int .u64 n,.raw .nilIface]) [] ⟨rfl,n,_,rfl,hn0,hn1,.inl rfl,fun _ h2=>⟨by rw [hg h2,List.take_length],rfl⟩⟩ rfl ?_
  simp +decide -dsimp -implicitDefEqProofs [go_sem]
 have w:IntKind.i64.wrap ((i:Int) + 1) = i + 1:=w64 (by omega) (by omega)
 have hmem:=List.getElem_mem h
 generalize hc:s[i] = c at hmem
 have hc256:c.toNat < 256:=c.toNat_lt
 have bad:∀ {m k:Int},0 ≤ m → m < 18446744073709551616 → (k = 1 ∨ k = 2) → ¬ (48 ≤ c.toNat ∧ c.toNat < 48 + 10) → puR 10 s (.tup [.int .u64 m,.raw (.iface 240 (.int .i64 k))]) []:=fun h0 h1 hk hx=>QEJ h0 h1 hk fun h2=>hx (h2.2.1 c hmem)
 have c95:(c.toNat:Int) = 95 → ¬ (48 ≤ c.toNat ∧ c.toNat < 48 + 10):=fun e=>by omega
 by_cases h48:(48:Int) ≤ c.toNat
 ·by_cases h57:(c.toNat:Int) ≤ 57
  ·-- a digit
   have d1:IntKind.u8.wrap ((c.toNat:Int) - 48) = c.toNat - 48:=by rw [IntKind.wrap_u8]; omega
   have hne:¬ (c.toNat:Int) = 95:=by omega
   by_cases hd:10 ≤ (c.toNat:Int) - 48
   ·simp +decide -dsimp -implicitDefEqProofs [go_sem,h,hc,hne,h48,h57,d1,x4,hd]
    refine QAT (.tup [.int .u64 0,.raw (.iface 240 (.int .i64 2))]) [] (bad (m:=0) (k:=2) (by decide) (by decide) (.inr rfl) (by omega)) rfl ?_
    simp +decide -dsimp -implicitDefEqProofs [go_sem]
   by_cases hcut:1844674407370955162 ≤ n
   ·simp +decide -dsimp -implicitDefEqProofs [go_sem,h,hc,hne,h48,h57,d1,x4,hd,hcut]
    refine QAT (.tup [.int .u64 18446744073709551615,.raw (.iface 240 (.int .i64 1))]) [] (QEJ (n:=18446744073709551615) (k:=1) (by decide) (by decide) (.inl rfl) fun h2=>?_) rfl ?_
    ·have h3:=hg h2.2
     have h4:=QCL (b:=10) (by decide) (fun c hc=>(h2.2.1 c hc).1) i
     have h5:=QCL (b:=10) (by decide) (fun c hc=>(h2.2.1 c hc).1) (i + 1)
     rw [List.take_succ_eq_append_getElem h,QDF,hc] at h5
     have h6:=h2.2.2
     have h7:=(h2.2.1 c hmem).1
     omega
    simp +decide -dsimp -implicitDefEqProofs [go_sem]
   have w1:IntKind.u64.wrap (n * 10) = n * 10:=QNN (by omega) (by omega)
   have w2:IntKind.u64.wrap ((c.toNat:Int) - 48) = c.toNat - 48:=QNN (by omega) (by omega)
   have gi:QKv 10 s → n * 10 + ((c.toNat:Int) - 48) = QDi 10 (s.take (i + 1)):=fun h2=>by
    rw [List.take_succ_eq_append_getElem h,QDF,hc,hg h2]; rfl
   by_cases hov:n * 10 + ((c.toNat:Int) - 48) < 18446744073709551616
   ·have w3:IntKind.u64.wrap (n * 10 + ((c.toNat:Int) - 48)) = n * 10 + ((c.toNat:Int) - 48):=QNN (by omega) hov
    have q1:¬ n * 10 + ((c.toNat:Int) - 48) < n * 10:=by omega
    have q2:¬ (18446744073709551615:Int) < n * 10 + ((c.toNat:Int) - 48):=by omega
    simp +decide -dsimp -implicitDefEqProofs [go_sem,h,hc,hne,h48,h57,d1,x3,x4,hd,hcut,w1,w2,w3,q1,q2,w]
    refine QAI (i + 1,n * 10 + ((c.toNat:Int) - 48)) ⟨by show i + 1 ≤ _; omega,by show 0 ≤ _; omega,hov,gi⟩ (by show _ - (i + 1) < _ - i; omega) (QAD (by simp) ?_)
    simp +decide -dsimp -implicitDefEqProofs [go_sem]
   ·have w3:IntKind.u64.wrap (n * 10 + ((c.toNat:Int) - 48)) = n * 10 + ((c.toNat:Int) - 48) - 18446744073709551616:=by rw [IntKind.wrap_u64]; omega
    have q1:n * 10 + ((c.toNat:Int) - 48) - 18446744073709551616 < n * 10:=by omega
    simp +decide -dsimp -implicitDefEqProofs [go_sem,h,hc,hne,h48,h57,d1,x3,x4,hd,hcut,w1,w2,w3,q1]
    refine QAT (.tup [.int .u64 18446744073709551615,.raw (.iface 240 (.int .i64 1))]) [] (QEJ (n:=18446744073709551615) (k:=1) (by decide) (by decide) (.inl rfl) fun h2=>?_) rfl ?_
    ·have h3:=gi h2.2
     have h4:=QCL (b:=10) (by decide) (fun c hc=>(h2.2.1 c hc).1) (i + 1)
     have h6:=h2.2.2
     omega
    simp +decide -dsimp -implicitDefEqProofs [go_sem]
  ·-- above the digits
   have hx:¬ (48 ≤ c.toNat ∧ c.toNat < 48 + 10):=by omega
   by_cases hne:(c.toNat:Int) = 95
   ·simp +decide -dsimp -implicitDefEqProofs [go_sem,h,hc,hne]
    refine QAA QIp rfl rfl ?_
    simp +decide -dsimp -implicitDefEqProofs [go_sem]
    refine QAA QIp rfl rfl ?_
    simp +decide -dsimp -implicitDefEqProofs [go_sem]
    refine QAT (.tup [.int .u64 0,.raw (.iface 240 (.int .i64 2))]) [] (bad (m:=0) (k:=2) (by decide) (by decide) (.inr rfl) hx) rfl ?_
    simp +decide -dsimp -implicitDefEqProofs [go_sem]
   simp +decide -dsimp -implicitDefEqProofs [go_sem,h,hc,hne,h48,h57]
   refine QAA (QCc c) rfl rfl ?_
   by_cases h97:97 ≤ QE4 c
   ·simp +decide -dsimp -implicitDefEqProofs [go_sem,h97]
    refine QAA (QCc c) rfl rfl ?_
    by_cases h122:QE4 c ≤ 122
    ·have d1:IntKind.u8.wrap (QE4 c - 97) = QE4 c - 97:=by rw [IntKind.wrap_u8]; omega
     have d2:IntKind.u8.wrap (QE4 c - 97 + 10) = QE4 c - 97 + 10:=by rw [IntKind.wrap_u8]; omega
     have d3:10 ≤ QE4 c - 97 + 10:=by omega
     simp +decide -dsimp -implicitDefEqProofs [go_sem,h122]
     refine QAA (QCc c) rfl rfl ?_
     simp +decide -dsimp -implicitDefEqProofs [go_sem,d1,d2,d3,x4]
     refine QAT (.tup [.int .u64 0,.raw (.iface 240 (.int .i64 2))]) [] (bad (m:=0) (k:=2) (by decide) (by decide) (.inr rfl) hx) rfl ?_
     simp +decide -dsimp -implicitDefEqProofs [go_sem]
    ·simp +decide -dsimp -implicitDefEqProofs [go_sem,h122]
     refine QAT (.tup [.int .u64 0,.raw (.iface 240 (.int .i64 2))]) [] (bad (m:=0) (k:=2) (by decide) (by decide) (.inr rfl) hx) rfl ?_
     simp +decide -dsimp -implicitDefEqProofs [go_sem]
   ·simp +decide -dsimp -implicitDefEqProofs [go_sem,h97]
    refine QAT (.tup [.int .u64 0,.raw (.iface 240 (.int .i64 2))]) [] (bad (m:=0) (k:=2) (by decide) (by decide) (.inr rfl) hx) rfl ?_
    simp +decide -dsimp -implicitDefEqProofs [go_sem]
 ·have hx:¬ (48 ≤ c.toNat ∧ c.toNat < 48 + 10):=by omega
  have hne:¬ (c.toNat:Int) = 95:=by omega
  simp +decide -dsimp -implicitDefEqProofs [go_sem,h,hc,hne,h48]
  refine QAA (QCc c) rfl rfl ?_
  by_cases h97:97 ≤ QE4 c
  ·simp +decide -dsimp -implicitDefEqProofs [go_sem,h97]
   refine QAA (QCc c) rfl rfl ?_
   by_cases h122:QE4 c ≤ 122
   ·have d1:IntKind.u8.wrap (QE4 c - 97) = QE4 c - 97:=by rw [IntKind.wrap_u8]; omega
    have d2:IntKind.u8.wrap (QE4 c - 97 + 10) = QE4 c - 97 + 10:=by rw [IntKind.wrap_u8]; omega
    have d3:10 ≤ QE4 c - 97 + 10:=by omega
    simp +decide -dsimp -implicitDefEqProofs [go_sem,h122]
    refine QAA (QCc c) rfl rfl ?_
    simp +decide -dsimp -implicitDefEqProofs [go_sem,d1,d2,d3,x4]
    refine QAT (.tup [.int .u64 0,.raw (.iface 240 (.int .i64 2))]) [] (bad (m:=0) (k:=2) (by decide) (by decide) (.inr rfl) hx) rfl ?_
    simp +decide -dsimp -implicitDefEqProofs [go_sem]
   ·simp +decide -dsimp -implicitDefEqProofs [go_sem,h122]
    refine QAT (.tup [.int .u64 0,.raw (.iface 240 (.int .i64 2))]) [] (bad (m:=0) (k:=2) (by decide) (by decide) (.inr rfl) hx) rfl ?_
    simp +decide -dsimp -implicitDefEqProofs [go_sem]
  ·simp +decide -dsimp -implicitDefEqProofs [go_sem,h97]
   refine QAT (.tup [.int .u64 0,.raw (.iface 240 (.int .i64 2))]) [] (bad (m:=0) (k:=2) (by decide) (by decide) (.inr rfl) hx) rfl ?_
   simp +decide -dsimp -implicitDefEqProofs [go_sem]
end Go.Ab
