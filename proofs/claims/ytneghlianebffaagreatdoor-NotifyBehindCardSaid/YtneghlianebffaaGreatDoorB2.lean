/- The bus: telling the subscribers, one after the other. -/
import Derived.Test.YtneghlianebffaaGreatDoorOX
import Derived.Test.YtneghlianebffaaGreatDoorB1
import Derived.Test.YtneghlianebffaaGreatDoorW2
import Derived.Test.YtneghlianebffaaGreatDoorG2
import Derived.Test.YtneghlianebffaaGreatDoorA6
import Derived.Test.YtneghlianebffaaGreatDoorC1
namespace Go.Ab
open Go Go.Proofs
set_option maxRecDepth 20000
theorem nodup_le : ∀ (n : Nat) (l : List Nat), l.Nodup → (∀ x ∈ l, x < n) → l.length ≤ n
  | 0, l, _, h => by
    cases l with
    | nil => simp
    | cons x r => have := h x (by simp); omega
  | n + 1, l, hn, h => by
    have h1 := nodup_le n (l.erase n) (hn.erase n) fun x hx => by
      have h2 := (hn.mem_erase_iff).1 hx
      have := h x h2.2
      omega
    have h3 : l.length ≤ (l.erase n).length + 1 := by rw [List.length_erase]; split <;> omega
    omega
theorem vis_lt {n : Nat} {vis : List Nat} {j : Nat} (h1 : vis.Nodup) (h2 : ∀ x ∈ vis, x < n) (hj : j < n) (hn : j ∉ vis) : (vis ++ [j]).length ≤ n := by
  refine nodup_le n _ ?_ fun x hx => ?_
  · rw [List.nodup_append]
    refine ⟨h1, by simp, fun a ha b hb => ?_⟩
    simp at hb; subst hb
    exact fun e => hn (e ▸ ha)
  · rcases List.mem_append.1 hx with hx | hx
    · exact h2 x hx
    · simp at hx; omega
def tellB (q : Int) (r : Rcd) (s : Sb) : Sb := if wantB s.f r then s.send ⟨q, 1, r⟩ else if (getS r.path s.seen).getD false then s.send ⟨q, 2, r⟩ else s
theorem tellB_behind {q : Int} {r : Rcd} {s : Sb} (h : s.behind = true) : tellB q r s = s := by
  unfold tellB Sb.send
  simp [h]
theorem send_f (n : Ntc) (s : Sb) : (s.send n).f = s.f := by unfold Sb.send; split <;> rfl
theorem tellB_f (q : Int) (r : Rcd) (s : Sb) : (tellB q r s).f = s.f := by
  unfold tellB
  split
  · exact send_f _ _
  · split
    · exact send_f _ _
    · rfl
def goneB (q : Int) (r : Rcd) (p : List UInt8) (s : Sb) : Sb := if (getS p s.seen).getD false then s.send ⟨q, 2, r⟩ else s
def datS (m : SMap SbL) : SMap Sb := m.map (Option.map fun p => (p.1, p.2.s))
theorem callDE_over {f : Nat} {ys xs : List AV} {av : AV} {H : List AObj} {is : List Nat} {H' : List AObj} {K : SK} {u : TagOf K} (h : OverAt f ys av H is H') (hx : xs = renL is ys)
    (hK : ∀ pre wr, pre.map (·.1) = is → wr.map (·.1) = is → updH H wr = H' → K pre wr (ren is av)) : callDE Tryz.prog f xs H K u := by
  obtain ⟨He, Ge, h1, h2, h3, h4, h5, h6⟩ := h
  refine callDE_frame is h1 h2 h3 h4 hx h5 (hK _ _ ?_ ?_ ?_)
  · rw [List.map_fst_zip (by simp [h2])]
  · rw [List.map_fst_zip (by simp [h3])]
  · rw [h6, updAt_updH _ _ _ (by simp [h3])]
theorem OverAt.len {f : Nat} {ys : List AV} {av : AV} {H : List AObj} {is : List Nat} {H' : List AObj} (h : OverAt f ys av H is H') : H'.length = H.length := by
  obtain ⟨He, Ge, h1, h2, h3, h4, h5, h6⟩ := h
  rw [h6, updAt_updH _ _ _ (by simp [h3]), length_updH]
theorem OverAt.old {f : Nat} {ys : List AV} {av : AV} {H : List AObj} {is : List Nat} {H' : List AObj} (h : OverAt f ys av H is H') (i : Nat) (hi : i ∉ is) : H'[i]? = H[i]? := by
  obtain ⟨He, Ge, h1, h2, h3, h4, h5, h6⟩ := h
  rw [h6, updAt_other _ _ _ _ hi]
theorem bus_set {H : List AObj} {ob ro so : Nat} {B : Bus} (h : BusAt H ob ro so B) {i : Nat} (y : AObj) (hf : ¬ B.foot i) (n1 : i ≠ ob) (n2 : i ≠ ro) (n3 : i ≠ so) : BusAt (H.set i y) ob ro so B := by
  have old : ∀ j, j ≠ i → (H.set i y)[j]? = H[j]? := fun j hj => List.getElem?_set_ne (Ne.symm hj)
  refine ⟨(old _ (Ne.symm n1)).trans h.box, (old _ (Ne.symm n2)).trans h.rdy, (old _ (Ne.symm n3)).trans h.sbs, h.rso, fun j p hj => (h.sub j p hj).keep (fun _ h => h) fun k hk => old k fun e => hf (e ▸ ⟨j, p, hj, hk⟩), fun k hk => ?_, h.dis⟩
  rw [List.length_set]; exact h.out k hk
theorem bus_rdy {H : List AObj} {ob ro so : Nat} {B : Bus} (h : BusAt H ob ro so B) (m : SMap Rcd) (q : Int) : BusAt ((H.set ro (.map (rdM m))).set ob (.box 82 [.map ro, .map so, .int .i64 q])) ob ro so ⟨m, B.subs, q⟩ ∧ BusF H ((H.set ro (.map (rdM m))).set ob (.box 82 [.map ro, .map so, .int .i64 q])) ob ro so B ⟨m, B.subs, q⟩ := by
  have n1 : ob ≠ ro := at_ne h.box h.rdy (by simp)
  have n2 : ob ≠ so := at_ne h.box h.sbs (by simp)
  have old : ∀ j, j ≠ ob → j ≠ ro → ((H.set ro (.map (rdM m))).set ob (.box 82 [.map ro, .map so, .int .i64 q]))[j]? = H[j]? := fun j h1 h2 => by
    rw [List.getElem?_set_ne (Ne.symm h1), List.getElem?_set_ne (Ne.symm h2)]
  have ft : ∀ i, (⟨m, B.subs, q⟩ : Bus).foot i ↔ B.foot i := fun i => Iff.rfl
  refine ⟨⟨set_at' (set_at h.box (.inl n1)), set_at (set_at' h.rdy) (.inl (Ne.symm n1)), (old _ (Ne.symm n2) (Ne.symm h.rso)).trans h.sbs, h.rso, fun j p hj => (h.sub j p hj).keep (fun _ h => h) fun k hk => old k ?_ ?_, fun k hk => ?_, h.dis⟩, ⟨by simp, fun i hi a1 a2 a3 a4 => ⟨old i a1 a2, a4⟩⟩⟩
  · exact (h.out k ⟨j, p, hj, hk⟩).2.1
  · exact (h.out k ⟨j, p, hj, hk⟩).2.2.1
  · simp only [List.length_set]; exact h.out k hk
theorem datS_at {m : SMap SbL} {j : Nat} {p : List UInt8 × SbL} (h : m[j]? = some (some p)) : (datS m)[j]? = some (some (p.1, p.2.s)) := by simp [datS, h]
theorem datS_put (m : SMap SbL) (j : Nat) (k : List UInt8) (x : SbL) (i : Nat) (hj : j < m.length) : (datS (m.set j (some (k, x))))[i]? = if i = j then some (some (k, x.s)) else (datS m)[i]? := by
  unfold datS
  rw [List.getElem?_map, List.getElem?_map, List.getElem?_set]
  by_cases e : j = i
  · subst e; simp [hj]
  · rw [if_neg e, if_neg (Ne.symm e)]
structure TellI (H : List AObj) (ob ro so n iI : Nat) (cell : AObj) (B B1 : Bus) (g : Sb → Sb) (G : List AObj) (B' : Bus) (vis : List Nat) : Prop where
  at_ : BusAt G ob ro so B'
  fr : BusF H G ob ro so B B'
  nn : G[n]? = some cell
  nf : ¬ B'.foot n
  il : H.length ≤ iI
  it : G[iI]? = some (.iter so B'.subs.length vis)
  tf : ¬ B'.foot iI
  rd : B'.ready = B1.ready
  la : B'.last = B1.last
  len : B'.subs.length = B1.subs.length
  sb : ∀ j, (datS B'.subs)[j]? = if j ∈ vis then ((datS B1.subs)[j]?).map (Option.map fun p => (p.1, g p.2)) else (datS B1.subs)[j]?
  nd : vis.Nodup
  lt : ∀ j ∈ vis, j < B1.subs.length
theorem TellI.fin {H : List AObj} {ob ro so n iI : Nat} {cell : AObj} {B B1 : Bus} {g : Sb → Sb} {G : List AObj} {B' : Bus} {vis : List Nat} (h : TellI H ob ro so n iI cell B B1 g G B' vis)
    (hA : ∀ (j : Nat) (p : List UInt8 × SbL), B'.subs[j]? = some (some p) → j ∈ vis) : datS B'.subs = (datS B1.subs).map (Option.map fun p => (p.1, g p.2)) := by
  apply List.ext_getElem?
  intro j
  rw [List.getElem?_map]
  by_cases hj : j ∈ vis
  · rw [h.sb j, if_pos hj]
  · rw [h.sb j, if_neg hj]
    cases hb : B'.subs[j]? with
    | none =>
      have h1 := h.sb j
      rw [if_neg hj] at h1
      have h2 : (datS B'.subs)[j]? = none := by simp [datS, hb]
      rw [← h1, h2]; rfl
    | some o =>
      cases o with
      | some p => exact (hj (hA j p hb)).elim
      | none =>
        have h1 := h.sb j
        rw [if_neg hj] at h1
        have h2 : (datS B'.subs)[j]? = some none := by simp [datS, hb]
        rw [← h1, h2]; rfl
structure RoundI (ob ro so n iI u : Nat) (cell : AObj) (G2 : List AObj) (B' : Bus) (vis : List Nat) : Prop where
  at_ : BusAt G2 ob ro so B'
  nn : G2[n]? = some cell
  it : G2[iI]? = some (.iter so B'.subs.length vis)
  ub : G2[u]? = some .unborn
  uf : ¬ B'.foot u
theorem TellI.start {H : List AObj} {ob ro so n iI : Nat} {cell : AObj} {B B1 : Bus} {g : Sb → Sb} {G : List AObj} {B' : Bus} {vis : List Nat} (h : TellI H ob ro so n iI cell B B1 g G B' vis) (hc : ∀ m s l, cell ≠ .iter m s l) (j : Nat) :
    RoundI ob ro so n iI G.length cell ((G ++ [AObj.unborn]).set iI (.iter so B'.subs.length (vis ++ [j]))) B' (vis ++ [j]) := by
  have b := (bus_app h.at_ [.unborn]).1
  have l3 := (List.getElem?_eq_some_iff.1 h.it).1
  have i1 : (G ++ [AObj.unborn])[iI]? = some (.iter so B'.subs.length vis) := by rw [List.getElem?_append_left l3]; exact h.it
  have n1 := at_ne i1 b.box (by simp)
  have n2 := at_ne i1 b.rdy (by simp)
  have n3 := at_ne i1 b.sbs (by simp)
  refine ⟨bus_set b _ h.tf n1 n2 n3, ?_, set_at' i1, ?_, fun e => ?_⟩
  · have i2 : (G ++ [AObj.unborn])[n]? = some cell := by rw [List.getElem?_append_left (List.getElem?_eq_some_iff.1 h.nn).1]; exact h.nn
    exact set_at i2 (.inl (at_ne i2 i1 (hc _ _ _)))
  · have i2 : (G ++ [AObj.unborn])[G.length]? = some .unborn := by simp
    exact set_at i2 (.inl (at_ne i2 i1 (by simp)))
  · exact absurd (h.at_.out _ e).1 (by omega)
def Bus.okF (B : Bus) : Prop := ∀ (j : Nat) (p : List UInt8 × SbL), B.subs[j]? = some (some p) → p.2.s.f.sub.length ≤ 1000 ∧ p.2.s.f.tag.length ≤ 1000
theorem TellI.flt {H : List AObj} {ob ro so n iI : Nat} {cell : AObj} {B B1 : Bus} {g : Sb → Sb} {G : List AObj} {B' : Bus} {vis : List Nat} (h : TellI H ob ro so n iI cell B B1 g G B' vis) (hg : ∀ s, (g s).f = s.f) (hf : B1.okF) {j : Nat} {p : List UInt8 × SbL} (hp : B'.subs[j]? = some (some p)) : p.2.s.f.sub.length ≤ 1000 ∧ p.2.s.f.tag.length ≤ 1000 := by
  have h1 := h.sb j
  rw [datS_at hp] at h1
  have key : ∀ s : Sb, (∃ q : List UInt8 × SbL, B1.subs[j]? = some (some q) ∧ q.2.s.f = s.f) → s.f.sub.length ≤ 1000 ∧ s.f.tag.length ≤ 1000 := fun s ⟨q, h2, h3⟩ => by rw [← h3]; exact hf j q h2
  refine key _ ?_
  have h3 : ∀ q : List UInt8 × Sb, (datS B1.subs)[j]? = some (some q) → ∃ q' : List UInt8 × SbL, B1.subs[j]? = some (some q') ∧ q'.2.s = q.2 := fun q hq => by
    unfold datS at hq
    rw [List.getElem?_map, Option.map_eq_some_iff] at hq
    obtain ⟨o, h4, h5⟩ := hq
    cases o with
    | none => cases h5
    | some q' => simp only [Option.map_some, Option.some.injEq] at h5; exact ⟨q', h4, by rw [← h5]⟩
  split at h1
  · cases hd : (datS B1.subs)[j]? with
    | none => rw [hd] at h1; cases h1
    | some o =>
      rw [hd] at h1
      cases o with
      | none => cases h1
      | some q =>
        obtain ⟨q', h4, h5⟩ := h3 q hd
        simp only [Option.map_some, Option.some.injEq, Prod.mk.injEq] at h1
        exact ⟨q', h4, by rw [h1.2, hg, h5]⟩
  · obtain ⟨q', h4, h5⟩ := h3 _ h1.symm
    exact ⟨q', h4, by rw [h5]⟩
theorem TellI.sb_step {H : List AObj} {ob ro so n iI : Nat} {cell : AObj} {B B1 : Bus} {g : Sb → Sb} {G : List AObj} {B' : Bus} {vis : List Nat} (h : TellI H ob ro so n iI cell B B1 g G B' vis) {j : Nat} (hj : j ∉ vis) {p : List UInt8 × SbL} (hp : B'.subs[j]? = some (some p)) {D : SMap Sb} (hD : ∀ i, D[i]? = if i = j then some (some (p.1, g p.2.s)) else (datS B'.subs)[i]?) :
    (∀ i, D[i]? = if i ∈ vis ++ [j] then ((datS B1.subs)[i]?).map (Option.map fun p => (p.1, g p.2)) else (datS B1.subs)[i]?) ∧ (vis ++ [j]).Nodup ∧ ∀ i ∈ vis ++ [j], i < B1.subs.length := by
  have hl : j < B'.subs.length := (List.getElem?_eq_some_iff.1 hp).1
  refine ⟨fun i => ?_, ?_, fun i hi => ?_⟩
  · rw [hD i, h.sb i]
    by_cases e : i = j
    · subst e
      rw [if_pos rfl, if_pos (by simp)]
      have h1 := h.sb i
      rw [if_neg hj, datS_at hp] at h1
      rw [← h1]; rfl
    · rw [if_neg e]
      by_cases e2 : i ∈ vis
      · rw [if_pos e2, if_pos (by simp [e2])]
      · rw [if_neg e2, if_neg (by simp [e2, e])]
  · rw [List.nodup_append]
    refine ⟨h.nd, by simp, fun a ha b hb => ?_⟩
    simp at hb; subst hb
    exact fun e => hj (e ▸ ha)
  · rcases List.mem_append.1 hi with hi | hi
    · exact h.lt i hi
    · simp at hi; subst hi; rw [← h.len]; exact hl
theorem TellI.skip {H : List AObj} {ob ro so n iI : Nat} {cell : AObj} {B B1 : Bus} {g : Sb → Sb} {G : List AObj} {B' : Bus} {vis : List Nat} (h : TellI H ob ro so n iI cell B B1 g G B' vis) (hc : ∀ m s l, cell ≠ .iter m s l) {j : Nat} (hj : j ∉ vis) {p : List UInt8 × SbL} (hp : B'.subs[j]? = some (some p)) (hg : g p.2.s = p.2.s) :
    TellI H ob ro so n iI cell B B1 g ((G ++ [AObj.unborn]).set iI (.iter so B'.subs.length (vis ++ [j]))) B' (vis ++ [j]) := by
  have r := h.start hc j
  obtain ⟨s1, s2, s3⟩ := h.sb_step hj hp (D := datS B'.subs) fun i => by
    split
    · rename_i e; subst e; rw [datS_at hp, hg]
    · rfl
  refine ⟨r.at_, ⟨by rw [List.length_set, List.length_append]; exact Nat.le_trans h.fr.len (by simp), fun i h1 h2 h3 h4 h5 => ?_⟩, r.nn, h.nf, h.il, r.it, h.tf, h.rd, h.la, h.len, s1, s2, s3⟩
  obtain ⟨k1, k2⟩ := h.fr.keep i h1 h2 h3 h4 h5
  have := h.il
  exact ⟨by rw [List.getElem?_set_ne (by omega), List.getElem?_append_left (Nat.lt_of_lt_of_le h1 h.fr.len)]; exact k1, k2⟩
theorem TellI.sent {H : List AObj} {ob ro so n iI : Nat} {cell : AObj} {B B1 : Bus} {g : Sb → Sb} {G : List AObj} {B' : Bus} {vis : List Nat} (h : TellI H ob ro so n iI cell B B1 g G B' vis) (hc : ∀ m s l, cell ≠ .iter m s l) (hu : cell ≠ .unborn) {j : Nat} (hj : j ∉ vis) {p : List UInt8 × SbL} (hp : B'.subs[j]? = some (some p))
    {f : Nat} {ys : List AV} {av : AV} {is : List Nat} {G3 : List AObj} (ho : OverAt f ys av ((G ++ [AObj.unborn]).set iI (.iter so B'.subs.length (vis ++ [j]))) is G3) (his : ∀ i ∈ is, i ∈ p.2.fp ∨ i = G.length) (hs : SubAt G3 p.2.o (G.length :: p.2.fp) (g p.2.s)) :
    TellI H ob ro so n iI cell B B1 g G3 (B'.put j p.1 ⟨p.2.o, G.length :: p.2.fp, g p.2.s⟩) (vis ++ [j]) := by
  have r := h.start hc j
  have hl : j < B'.subs.length := (List.getElem?_eq_some_iff.1 hp).1
  obtain ⟨s1, s2, s3⟩ := h.sb_step hj hp (D := datS (B'.put j p.1 ⟨p.2.o, G.length :: p.2.fp, g p.2.s⟩).subs) fun i => datS_put _ _ _ _ _ hl
  have iu : iI ≠ G.length := at_ne r.it r.ub (by simp)
  have nu : n ≠ G.length := at_ne r.nn r.ub hu
  obtain ⟨u1, u2⟩ := bus_upd r.at_ (x := p.2) (k := p.1) hp r.ub r.uf ho.len (fun i h1 h2 => ho.old i fun e => (his i e).elim h1 h2) hs
  have e0 : (B'.put j p.1 ⟨p.2.o, G.length :: p.2.fp, g p.2.s⟩).subs.length = B'.subs.length := by simp [Bus.put]
  refine ⟨u1, ⟨?_, fun i h1 h2 h3 h4 h5 => ?_⟩, (u2 n nu h.nf).1.trans r.nn, (u2 n nu h.nf).2, h.il, ?_, (u2 iI iu h.tf).2, h.rd, h.la, e0.trans h.len, s1, s2, s3⟩
  · rw [ho.len, List.length_set, List.length_append]; exact Nat.le_trans h.fr.len (by simp)
  · obtain ⟨k1, k2⟩ := h.fr.keep i h1 h2 h3 h4 h5
    have := h.il
    have hlt := Nat.lt_of_lt_of_le h1 h.fr.len
    obtain ⟨v1, v2⟩ := u2 i (by omega) k2
    exact ⟨by rw [v1, List.getElem?_set_ne (by omega), List.getElem?_append_left hlt]; exact k1, v2⟩
  · rw [(u2 iI iu h.tf).1, e0]; exact r.it
end Go.Ab
namespace Go.Ab
open Go Go.Proofs
set_option maxRecDepth 20000
theorem rRow_e (r : Rcd) : rRow r = [.str r.path, .int .i64 r.index, .imm (r.props.map aRow), .imm (r.tags.map sRow), .imm (r.links.map sRow), .imm (r.run.map sRow), .imm (r.load.map sRow), .str r.name, .int .i64 r.prio, .str r.owner, .str r.group, .int .i64 r.mode] := rfl
def rdyOk1 (H : List AObj) (B : Bus) (r : Rcd) (G : List AObj) : Prop := (2 ≤ (compsP r.path).length → (getS (aboveP r.path) B.ready).isSome = true) ∧ ∃ l, G = H ++ .box 36 (rRow r) :: l
def rdyS1 (ob : Nat) (n : Nat) (G : List AObj) : St := ⟨tmps 108 [(0, .ptr ob 0), (3, .ptr n 0), (4, .int .i64 0)], G⟩
def rdyE (B : Bus) (r : Rcd) : Int := if soundB r then (if 2 ≤ (compsP r.path).length ∧ (getS (aboveP r.path) B.ready).isSome = false then 305 else (match getS r.path B.ready with | some r0 => (if r0.index = r.index then 0 else 306) | none => 0)) else 304
def rdyOk2 (H : List AObj) (B : Bus) (r : Rcd) (G : List AObj) : Prop := rdyE B r = 0 ∧ ∃ l, G = H ++ .box 36 (rRow r) :: l
def rdyR (H : List AObj) (ob ro so : Nat) (B : Bus) (r : Rcd) (v : AV) (G : List AObj) : Prop := v = .int .i64 (rdyE B r) ∧
  (if rdyE B r = 0 then ∃ S', BusAt G ob ro so ⟨setS r.path r B.ready, S', B.last + 1⟩ ∧ BusF H G ob ro so B ⟨setS r.path r B.ready, S', B.last + 1⟩ ∧ datS S' = (datS B.subs).map (Option.map fun p => (p.1, tellB (B.last + 1) r p.2)) else BusAt G ob ro so B ∧ BusF H G ob ro so B B)
def rdyOk3 (H : List AObj) (ob ro so : Nat) (B : Bus) (r : Rcd) (G : List AObj) : Prop := ∃ S', BusAt G ob ro so ⟨setS r.path r B.ready, S', B.last + 1⟩ ∧ BusF H G ob ro so B ⟨setS r.path r B.ready, S', B.last + 1⟩ ∧ datS S' = (datS B.subs).map (Option.map fun p => (p.1, tellB (B.last + 1) r p.2))
def rdyS3 (G : List AObj) : St := ⟨tmps 108 [], G⟩
def rdyS4 (ob n iI : Nat) (s : List AObj × Bus × List Nat) : St := ⟨tmps 108 [(0, .ptr ob 0), (3, .ptr n 0), (72, .it iI)], s.1⟩
def rdyI (H : List AObj) (ob ro so iI : Nat) (B : Bus) (r : Rcd) (s : List AObj × Bus × List Nat) : Prop := TellI H ob ro so H.length iI (.box 36 (rRow r)) B ⟨setS r.path r B.ready, B.subs, B.last + 1⟩ (tellB (B.last + 1) r) s.1 s.2.1 s.2.2
theorem ordC (_o ob n : Nat) (is : List Nat) : objOrd [0, 0, 2, 6, 14, 0, 62, 127] [([], []), ([], []), ([], []), ([], []), ([ob], []), ([n], []), ([], []), (is, is)] = true := by
  simp +decide [objOrd, clash]
theorem ready_c {H : List AObj} {ob ro so : Nat} {B : Bus} (h : BusAt H ob ro so B) (hfl : B.okF) (hq : 0 ≤ B.last ∧ B.last ≤ 1000000000) (r : Rcd) (hf : Few r) :
    ACallsR Tryz.prog 16 [.ptr ob 0, .agg (rRow r)] H (rdyR H ob ro so B r) := by
  have cc := check_c r hf
  have hcl := fun k => rRow_cl k r
  have b1 := h.box
  have b2 := h.rdy
  have b3 := h.sbs
  have ap : ∀ {i : Nat} {x : AObj} (l : List AObj), H[i]? = some x → (H ++ l)[i]? = some x := fun l hx => by
    rw [List.getElem?_append_left (List.getElem?_eq_some_iff.1 hx).1]; exact hx
  have a1 := fun l => ap l b1
  have a2 := fun l => ap l b2
  have a3 := fun l => ap l b3
  have bad : ∀ (n : Int) (l : List AObj), rdyE B r = n → n ≠ 0 → rdyR H ob ro so B r (.int .i64 n) (H ++ l) := fun n l e hn => by
    unfold rdyR; rw [e, if_neg hn]; exact ⟨rfl, bus_app h l⟩
  refine acalls_WA _ c16_ok ?_
  unfold c16
  unfold rRow at cc hcl ⊢
  refine awp_go ?_
  simp +decide -dsimp -implicitDefEqProofs [go_sem]
  refine awp_go ?_
  simp +decide -dsimp -implicitDefEqProofs [go_sem]
  refine callE_pure cc (by rw [closedL, closed, hcl 0]; rfl) rfl ?_
  cases hs : soundB r with
  | false =>
    simp +decide -dsimp -implicitDefEqProofs [go_sem]
    refine endW_of _ _ (Wk.refl _ _) ?_
    simp +decide -dsimp -implicitDefEqProofs [go_sem, packR]
    exact bad 304 _ (by simp [rdyE, hs]) (by decide)
  | true =>
    simp +decide -dsimp -implicitDefEqProofs [go_sem]
    have hp : placeB r.path = true := by
      unfold soundB at hs
      simp only [Bool.and_eq_true] at hs
      exact hs.1.1.1.1.1.1.1.1.1.1.1
    have hsm := small_of hs
    have hc : Cpy r := by
      have := hsm.props; have := hsm.tags; have := hsm.links; have := hsm.runs; have := hsm.loads
      exact ⟨by omega, by omega, by omega, by omega, by omega⟩
    have ha : Ask r := by
      have := hsm.props; have := hsm.tags
      exact ⟨by omega, fun p hp => by have := (hsm.attr p hp).2; omega, by omega, fun x hx => by have := hsm.tag x hx; omega⟩
    have c47 := above_c r.path hp
    have hk := fun p => keys_smK (fun r : Rcd => AV.agg (rRow r)) p B.ready
    have hf2 := fun p => find_smK (fun r : Rcd => AV.agg (rRow r)) p B.ready
    unfold goE
    refine awp_cutX (rdyS1 ob H.length) (rdyOk1 H B r) ?_ ?_
    · refine awp_of ?_
      simp +decide -dsimp -implicitDefEqProofs [go_sem]
      refine callE_pure c47 rfl rfl ?_
      by_cases h2 : 2 ≤ (compsP r.path).length
      · have h2' : ¬ (compsP r.path).length < 2 := by omega
        cases hg : getS (aboveP r.path) B.ready with
        | none =>
          have hf3 := hf2 (aboveP r.path)
          rw [hg] at hf3
          simp +decide -dsimp -implicitDefEqProofs [go_sem, h2, h2', a1, a2, hk, hf3]
          refine endW_of _ _ (Wk.refl _ _) ?_
          simp +decide -dsimp -implicitDefEqProofs [go_sem, packR]
          exact bad 305 _ (by simp [rdyE, hs, h2, hg]) (by decide)
        | some r0 =>
          have hf3 := hf2 (aboveP r.path)
          rw [hg] at hf3
          have e0 := rRow_e r0
          simp +decide -dsimp -implicitDefEqProofs [go_sem, h2, h2', a1, a2, hk, hf3, e0]
          refine cutX_of (S := List AObj) (H ++ [.box 36 (rRow r), .box 36 (rRow r0)]) ⟨fun _ => by rw [hg]; rfl, _, rfl⟩ (Wk.jk ?_)
          simp +decide -dsimp -implicitDefEqProofs [go_sem, jkT]
      · simp +decide -dsimp -implicitDefEqProofs [go_sem, h2]
        refine cutX_of (S := List AObj) (H ++ [.box 36 (rRow r)]) ⟨fun h => (h2 h).elim, _, rfl⟩ (Wk.jk ?_)
        simp +decide -dsimp -implicitDefEqProofs [go_sem, jkT]
    · intro G ⟨hab, l, hl⟩
      have gp : ∀ {i : Nat} {x : AObj} (l' : List AObj), H[i]? = some x → (G ++ l')[i]? = some x := fun l' hx => by
        rw [hl, List.append_assoc, List.getElem?_append_left (List.getElem?_eq_some_iff.1 hx).1]; exact hx
      have g1 := fun l' => gp l' b1
      have g2 := fun l' => gp l' b2
      have g3 := fun l' => gp l' b3
      have g4 : ∀ l', (G ++ l')[H.length]? = some (.box 36 (rRow r)) := fun l' => by rw [hl]; simp
      have g4' : G[H.length]? = some (.box 36 (rRow r)) := by rw [hl]; simp
      rw [rRow_e r] at g4 g4'
      have hE : rdyE B r = (match getS r.path B.ready with | some r0 => (if r0.index = r.index then 0 else 306) | none => 0) := by
        unfold rdyE
        rw [hs, if_pos rfl, if_neg (by rintro ⟨h1, h2⟩; rw [hab h1] at h2; cases h2)]
      have lg : H.length < G.length := (List.getElem?_eq_some_iff.1 g4').1
      have l1 := (List.getElem?_eq_some_iff.1 b1).1
      have l2 := (List.getElem?_eq_some_iff.1 b2).1
      have n1 : H.length ≠ G.length := by omega
      have n2 : ob ≠ G.length := by omega
      have n3 : ro ≠ G.length := by omega
      have ord : objOrd [0, 1, 3, 7, 0, 16, 63, 127, 255, 255, 0, 1535, 4095] [([], []), ([], []), ([], []), ([ob], []), ([], []), ([H.length], []), ([ro], []), ([], []), ([], []), ([], []), ([G.length], [G.length]), ([G.length], [G.length]), ([], [])] = true := by
        simp +decide [objOrd, clash, n1, n2, n3, Ne.symm n1, Ne.symm n2, Ne.symm n3]
      unfold rdyS1
      refine awp_cutX (rdyS1 ob H.length) (rdyOk2 H B r) ?_ ?_
      · refine awp_of ?_
        have hf3 := hf2 r.path
        cases hg : getS r.path B.ready with
        | none =>
          rw [hg] at hf3 hE
          simp +decide -dsimp -implicitDefEqProofs [go_sem, g1, g2, g4, hk, hf3]
          refine ⟨ord, ?_⟩
          refine cutX_of (S := List AObj) (G ++ [AObj.box 36 [AV.str [], AV.int IntKind.i64 0, AV.nils, AV.nils, AV.nils, AV.nils, AV.nils, AV.str [], AV.int IntKind.i64 0, AV.str [], AV.str [], AV.int IntKind.i64 0]]) ⟨hE, _, by rw [hl, List.append_assoc]; rfl⟩ (Wk.jk ?_)
          simp +decide -dsimp -implicitDefEqProofs [go_sem, jkT]
        | some r0 =>
          rw [hg] at hf3 hE
          have e0 := rRow_e r0
          simp +decide -dsimp -implicitDefEqProofs [go_sem, g1, g2, g4, hk, hf3, e0]
          refine ⟨ord, ?_⟩
          by_cases hi : r0.index = r.index
          · rw [if_pos hi]
            refine cutX_of (S := List AObj) (G ++ [AObj.box 36 (rRow r0)]) ⟨by rw [hE]; exact if_pos hi, _, by rw [hl, List.append_assoc]; rfl⟩ (Wk.jk ?_)
            simp +decide -dsimp -implicitDefEqProofs [go_sem, jkT]
          · rw [if_neg hi]
            refine endW_of _ _ (Wk.refl _ _) ?_
            simp +decide -dsimp -implicitDefEqProofs [go_sem, packR]
            rw [hl, List.append_assoc]
            exact bad 306 _ (by rw [hE]; exact if_neg hi) (by decide)
      · intro G ⟨hE0, l, hl⟩
        have gp : ∀ {i : Nat} {x : AObj} (l' : List AObj), H[i]? = some x → (G ++ l')[i]? = some x := fun l' hx => by
          rw [hl, List.append_assoc, List.getElem?_append_left (List.getElem?_eq_some_iff.1 hx).1]; exact hx
        have gq : ∀ {i : Nat} {x : AObj}, H[i]? = some x → G[i]? = some x := fun hx => by have := gp [] hx; rwa [List.append_nil] at this
        have q1 := gq b1
        have q2 := gq b2
        have q3 := gq b3
        have g4' : G[H.length]? = some (.box 36 (rRow r)) := by rw [hl]; simp
        have co := ownRecord_c r hc
        rw [rRow_e r] at g4' co
        unfold rdyS1
        refine awp_go ?_
        simp +decide -dsimp -implicitDefEqProofs [go_sem, g4']
        refine callE_pure co (by rw [closedL, closed, hcl 0]; rfl) (by rw [closed, hcl 0]) ?_
        simp +decide -dsimp -implicitDefEqProofs [go_sem, g4']
        rw [if_pos (List.getElem?_eq_some_iff.1 g4').1, set_same g4']
        have hset : setKv (.str r.path) (.agg [.str r.path, .int .i64 r.index, .imm (r.props.map aRow), .imm (r.tags.map sRow), .imm (r.links.map sRow), .imm (r.run.map sRow), .imm (r.load.map sRow), .str r.name, .int .i64 r.prio, .str r.owner, .str r.group, .int .i64 r.mode]) (smK (fun r => .agg (rRow r)) B.ready) = smK (fun r => .agg (rRow r)) (setS r.path r B.ready) := set_smK (fun r => .agg (rRow r)) r.path r B.ready
        have n1 : ob ≠ ro := at_ne b1 b2 (by simp)
        unfold goE
        refine awp_go ?_
        simp +decide -dsimp -implicitDefEqProofs [go_sem, q1, q2, g4', hk, hset]
        have n5 : H.length ≠ ro := by omega
        have ord2 : objOrd [0, 1, 3, 7, 0, 16, 0, 127] [([], []), ([], []), ([], []), ([ob], []), ([], []), ([H.length], []), ([H.length], []), ([ro], [ro])] = true := by
          simp +decide [objOrd, clash, n1, n5, Ne.symm n1, Ne.symm n5]
        refine ⟨ord2, ?_⟩
        -- the bus with the new record
        have bG : BusAt G ob ro so B ∧ BusF H G ob ro so B B := by rw [hl]; exact bus_app h _
        obtain ⟨bA, bF⟩ := bus_rdy bG.1 (setS r.path r B.ready) (B.last + 1)
        have n6 : H.length ≠ ob := by omega
        have c4 : ((G.set ro (.map (rdM (setS r.path r B.ready)))).set ob (.box 82 [.map ro, .map so, .int .i64 (B.last + 1)]))[H.length]? = some (.box 36 (rRow r)) := by
          rw [List.getElem?_set_ne (Ne.symm n6), List.getElem?_set_ne (Ne.symm n5)]; exact g4'
        have w1 : IntKind.i64.wrap (B.last + 1) = B.last + 1 := w64 (by omega) (by omega)
        have m1 : (G.set ro (.map (rdM (setS r.path r B.ready))))[ob]? = some (.box 82 [.map ro, .map so, .int .i64 B.last]) := set_at q1 (.inl n1)
        have lo1 := (List.getElem?_eq_some_iff.1 m1).1
        have hfo : ¬ B.foot H.length := fun e => absurd (h.out _ e).1 (by omega)
        generalize hG1 : G.set ro (.map (rdM (setS r.path r B.ready))) = G1 at *
        unfold goE
        refine awp_go ?_
        simp +decide -dsimp -implicitDefEqProofs [go_sem, m1, w1]
        rw [if_pos lo1]
        generalize hG2 : G1.set ob (.box 82 [.map ro, .map so, .int .i64 (B.last + 1)]) = G2 at *
        have e1 := bA.box
        have e3 := bA.sbs
        unfold goE
        refine awp_cutX rdyS3 (rdyOk3 H ob ro so B r) ?_ ?_
        · refine awp_of ?_
          simp +decide -dsimp -implicitDefEqProofs [go_sem, e1, e3]
          have hl2 : H.length ≤ G2.length := Nat.le_trans bG.2.len bF.len
          have hT0 : rdyI H ob ro so G2.length B r (G2 ++ [.iter so B.subs.length []], ⟨setS r.path r B.ready, B.subs, B.last + 1⟩, []) := by
            obtain ⟨k1, k2⟩ := bus_app bA [.iter so B.subs.length []]
            refine ⟨k1, (bG.2.trans bF).trans k2, ?_, hfo, hl2, by simp, fun e => Nat.lt_irrefl _ (bA.out _ e).1, rfl, rfl, rfl, fun j => by simp, by simp, by simp⟩
            rw [List.getElem?_append_left (List.getElem?_eq_some_iff.1 c4).1]; exact c4
          refine loop_ofA (S := List AObj × Bus × List Nat) (rdyS4 ob H.length G2.length) (fun s => B.subs.length - s.2.2.length) (rdyI H ob ro so G2.length B r) _ hT0 (Wk.jk ?_) ?_
          · simp +decide -dsimp -implicitDefEqProofs [go_sem, jkT]
          rintro ⟨G3, B', vis⟩ hI
          unfold rdyI at hI
          simp only at hI
          have hni : ∀ m s l, AObj.box 36 (rRow r) ≠ .iter m s l := fun _ _ _ => by simp
          have hnu : AObj.box 36 (rRow r) ≠ .unborn := by simp
          unfold rdyS4
          refine awp_wk (Wk.pushN 1) ?_
          simp only [List.replicate]
          have i1 : (G3 ++ [AObj.unborn])[G2.length]? = some (.iter so B'.subs.length vis) := by rw [List.getElem?_append_left (List.getElem?_eq_some_iff.1 hI.it).1]; exact hI.it
          have i2 : (G3 ++ [AObj.unborn])[so]? = some (.map (sbM B'.subs)) := (bus_app hI.at_ [.unborn]).1.sbs
          refine awp_of ?_
          simp +decide -dsimp -implicitDefEqProofs [go_sem]
          refine mnext_of (i := G2.length) (m := so) (kvs := sbM B'.subs) i1 i2 (length_smK _ _).symm (fun hA => ?_) (fun j kk x hj hg hnj => ?_)
          · simp +decide -dsimp -implicitDefEqProofs [go_sem]
            have hfin := hI.fin fun j p hj => hA j _ (smK_put hj).1 rfl
            have eB : B' = ⟨setS r.path r B.ready, B'.subs, B.last + 1⟩ := by
              have e1 := hI.rd; have e2 := hI.la
              simp only at e1 e2
              rw [← e1, ← e2]
            obtain ⟨k1, k2⟩ := bus_app hI.at_ [.unborn]
            have k3 := hI.fr.trans k2
            rw [eB] at k1 k3
            refine cutX_of (S := List AObj) _ ⟨B'.subs, k1, k3, hfin⟩ (Wk.jk ?_)
            simp +decide -dsimp -implicitDefEqProofs [go_sem, jkT]
          · obtain ⟨p, hjp, rfl, rfl⟩ := smK_at hj hg
            have hR := hI.start hni j
            have hlast : B'.last = B.last + 1 := hI.la
            have hfl' := hI.flt (tellB_f _ _) hfl hjp
            obtain ⟨sv, wv, s1, s2, s3, s4, s5, s6⟩ := hR.at_.sub j p hjp
            have r1 := hR.at_.box
            have r2 := hR.at_.sbs
            have r3 := hR.nn
            have r4 := hR.it
            have hj' : (sbM B'.subs)[j]? = some (.str p.1, .ptr p.2.o 0) := hj
            have cw := wantsR_c p.2.s.f r (by omega) (by omega) ha
            unfold wantsV at s2
            rw [rRow_e r] at r3
            rw [hlast] at r1
            have hSub := hR.at_.sub j p hjp
            have hsk := hI.skip hni hnj hjp
            have hst := fun {ys : List AV} {av : AV} {is : List Nat} {G4 : List AObj} => hI.sent hni hnu hnj hjp (f := 48) (ys := ys) (av := av) (is := is) (G3 := G4)
            have hu := hR.ub
            have huf := hR.uf
            generalize hG4 : (G3 ++ [AObj.unborn]).set G2.length (.iter so B'.subs.length (vis ++ [j])) = G4 at *
            unfold fltRow at cw s2
            rw [rRow_e r] at cw
            simp +decide -dsimp -implicitDefEqProofs [go_sem, r2, r3, r4, s2, hj', isGap]
            refine callDE_pure cw (by simp [closedL, closed, closedLL_aRows, closedLL_sRows]) rfl ?_
            have o1 : ∀ o : Nat, objOrd [0, 1, 3, 7, 0, 31, 63] [([], []), ([], []), ([], []), ([o], []), ([H.length], []), ([], []), ([], [])] = true := fun o => by simp +decide [objOrd, clash]
            have o2 : ∀ o : Nat, objOrd [0, 1, 3, 7, 0, 16, 63, 127] [([], []), ([], []), ([], []), ([o], []), ([], []), ([H.length], []), ([], []), ([], [])] = true := fun o => by simp +decide [objOrd, clash]
            have o3 : ∀ o q : Nat, objOrd [0, 1, 3, 7, 0, 16, 63, 127] [([], []), ([], []), ([], []), ([o], []), ([], []), ([H.length], []), ([q], []), ([], [])] = true := fun o q => by simp +decide [objOrd, clash]
            cases hw : wantB p.2.s.f r with
            | true =>
              have e9 : tellB (B.last + 1) r p.2.s = p.2.s.send ⟨B.last + 1, 1, r⟩ := by simp [tellB, hw]
              simp +decide -dsimp -implicitDefEqProofs [go_sem, r1, r3, o1]
              obtain ⟨is, G5, ho, h0, his, hsu⟩ := send_L ⟨B.last + 1, 1, r⟩ hSub hu (fun e => huf ⟨j, p, hjp, e⟩)
              have hxs : [AV.ptr p.2.o 0, .agg [.int .i64 (B.last + 1), .int .i64 1, .str r.path, .int .i64 r.index, .imm (r.props.map aRow), .imm (r.tags.map sRow), .imm (r.links.map sRow), .imm (r.run.map sRow), .imm (r.load.map sRow), .str r.name, .int .i64 r.prio, .str r.owner, .str r.group, .int .i64 r.mode]] = renL is [.ptr 0 0, .agg (ntRow ⟨B.last + 1, 1, r⟩)] := by
                simp only [renL, ren, h0, ntRow_ren]
                rfl
              refine callDE_over ho hxs fun pre wr hp hwr hup => ?_
              simp +decide -dsimp -implicitDefEqProofs [go_sem, hp, hwr, hup]
              refine ⟨ordC 0 ob H.length is, ?_⟩
              have hTell := hst ho his (by rw [e9]; exact hsu)
              refine next_of (S := List AObj × Bus × List Nat) (G5, B'.put j p.1 ⟨p.2.o, G3.length :: p.2.fp, tellB (B.last + 1) r p.2.s⟩, vis ++ [j]) hTell ?_ (Wk.jk ?_)
              · have := hTell.nd
                have h1 := vis_lt hI.nd hI.lt (j := j) (by rw [← hI.len]; exact (List.getElem?_eq_some_iff.1 hjp).1) hnj
                rw [List.length_append] at h1
                simp only [List.length_cons, List.length_nil] at h1
                show B.subs.length - (vis ++ [j]).length < B.subs.length - vis.length
                rw [List.length_append, List.length_cons, List.length_nil]; omega
              · simp +decide -dsimp -implicitDefEqProofs [go_sem, jkT]
            | false =>
              simp +decide -dsimp -implicitDefEqProofs [go_sem, r3, s2, o1]
              have hk := fun m => keys_smK AV.bool r.path m
              have hfm := fun m => find_smK AV.bool r.path m
              rcases s3 with ⟨hb, rfl⟩ | ⟨q, hq, rfl, h7⟩
              · have e9 : tellB (B.last + 1) r p.2.s = p.2.s := tellB_behind hb
                simp +decide -dsimp -implicitDefEqProofs [go_sem]
                refine ⟨o2 _, ?_⟩
                refine next_of (S := List AObj × Bus × List Nat) (G4, B', vis ++ [j]) (hsk e9) ?_ (Wk.jk ?_)
                · have h1 := vis_lt hI.nd hI.lt (j := j) (by rw [← hI.len]; exact (List.getElem?_eq_some_iff.1 hjp).1) hnj
                  rw [List.length_append] at h1
                  simp only [List.length_cons, List.length_nil] at h1
                  show B.subs.length - (vis ++ [j]).length < B.subs.length - vis.length
                  rw [List.length_append, List.length_cons, List.length_nil]; omega
                · simp +decide -dsimp -implicitDefEqProofs [go_sem, jkT]
              · cases hgs : getS r.path p.2.s.seen with
                | none =>
                  have e9 : tellB (B.last + 1) r p.2.s = p.2.s := by simp [tellB, hw, hgs]
                  have hfm' := hfm p.2.s.seen
                  rw [hgs] at hfm'
                  simp +decide -dsimp -implicitDefEqProofs [go_sem, r1, r3, h7, hk, hfm']
                  refine ⟨o3 _ _, ?_⟩
                  refine next_of (S := List AObj × Bus × List Nat) (G4, B', vis ++ [j]) (hsk e9) ?_ (Wk.jk ?_)
                  · have h1 := vis_lt hI.nd hI.lt (j := j) (by rw [← hI.len]; exact (List.getElem?_eq_some_iff.1 hjp).1) hnj
                    rw [List.length_append] at h1
                    simp only [List.length_cons, List.length_nil] at h1
                    show B.subs.length - (vis ++ [j]).length < B.subs.length - vis.length
                    rw [List.length_append, List.length_cons, List.length_nil]; omega
                  · simp +decide -dsimp -implicitDefEqProofs [go_sem, jkT]
                | some b =>
                  have hfm' := hfm p.2.s.seen
                  rw [hgs] at hfm'
                  cases b with
                  | false =>
                    have e9 : tellB (B.last + 1) r p.2.s = p.2.s := by simp [tellB, hw, hgs]
                    simp +decide -dsimp -implicitDefEqProofs [go_sem, r1, r3, h7, hk, hfm']
                    refine ⟨o3 _ _, ?_⟩
                    refine next_of (S := List AObj × Bus × List Nat) (G4, B', vis ++ [j]) (hsk e9) ?_ (Wk.jk ?_)
                    · have h1 := vis_lt hI.nd hI.lt (j := j) (by rw [← hI.len]; exact (List.getElem?_eq_some_iff.1 hjp).1) hnj
                      rw [List.length_append] at h1
                      simp only [List.length_cons, List.length_nil] at h1
                      show B.subs.length - (vis ++ [j]).length < B.subs.length - vis.length
                      rw [List.length_append, List.length_cons, List.length_nil]; omega
                    · simp +decide -dsimp -implicitDefEqProofs [go_sem, jkT]
                  | true =>
                    have e9 : tellB (B.last + 1) r p.2.s = p.2.s.send ⟨B.last + 1, 2, r⟩ := by simp [tellB, hw, hgs]
                    simp +decide -dsimp -implicitDefEqProofs [go_sem, r1, r3, h7, hk, hfm']
                    refine ⟨o3 _ _, ?_⟩
                    obtain ⟨is, G5, ho, h0, his, hsu⟩ := send_L ⟨B.last + 1, 2, r⟩ hSub hu (fun e => huf ⟨j, p, hjp, e⟩)
                    have hxs : [AV.ptr p.2.o 0, .agg [.int .i64 (B.last + 1), .int .i64 2, .str r.path, .int .i64 r.index, .imm (r.props.map aRow), .imm (r.tags.map sRow), .imm (r.links.map sRow), .imm (r.run.map sRow), .imm (r.load.map sRow), .str r.name, .int .i64 r.prio, .str r.owner, .str r.group, .int .i64 r.mode]] = renL is [.ptr 0 0, .agg (ntRow ⟨B.last + 1, 2, r⟩)] := by
                      simp only [renL, ren, h0, ntRow_ren]
                      rfl
                    refine callDE_over ho hxs fun pre wr hp hwr hup => ?_
                    simp +decide -dsimp -implicitDefEqProofs [go_sem, hp, hwr, hup]
                    refine ⟨ordC 0 ob H.length is, ?_⟩
                    have hTell := hst ho his (by rw [e9]; exact hsu)
                    refine next_of (S := List AObj × Bus × List Nat) (G5, B'.put j p.1 ⟨p.2.o, G3.length :: p.2.fp, tellB (B.last + 1) r p.2.s⟩, vis ++ [j]) hTell ?_ (Wk.jk ?_)
                    · have := hTell.nd
                      have h1 := vis_lt hI.nd hI.lt (j := j) (by rw [← hI.len]; exact (List.getElem?_eq_some_iff.1 hjp).1) hnj
                      rw [List.length_append] at h1
                      simp only [List.length_cons, List.length_nil] at h1
                      show B.subs.length - (vis ++ [j]).length < B.subs.length - vis.length
                      rw [List.length_append, List.length_cons, List.length_nil]; omega
                    · simp +decide -dsimp -implicitDefEqProofs [go_sem, jkT]
        · intro G3 ⟨S', k1, k2, k3⟩
          refine awp_of ?_
          unfold rdyS3
          simp +decide -dsimp -implicitDefEqProofs [go_sem]
          refine endW_of _ _ (Wk.refl _ _) ?_
          simp +decide -dsimp -implicitDefEqProofs [go_sem, packR]
          unfold rdyR
          rw [hE0, if_pos rfl]
          exact ⟨rfl, S', k1, k2, k3⟩
end Go.Ab
namespace Go.Ab
open Go Go.Proofs
set_option maxRecDepth 20000
theorem goneB_behind {q : Int} {r : Rcd} {p : List UInt8} {s : Sb} (h : s.behind = true) : goneB q r p s = s := by
  unfold goneB Sb.send
  simp [h]
def belowB (m : SMap Rcd) (p : List UInt8) : Bool := m.any fun o => match o with
  | some x => ancP p x.1
  | none => false
def goneE (B : Bus) (p : List UInt8) : Int := if (getS p B.ready).isSome then (if belowB B.ready p then 308 else 0) else 307
def goneR (H : List AObj) (ob ro so : Nat) (B : Bus) (p : List UInt8) (v : AV) (G : List AObj) : Prop := v = .int .i64 (goneE B p) ∧
  (if goneE B p = 0 then ∃ r S', getS p B.ready = some r ∧ BusAt G ob ro so ⟨delS p B.ready, S', B.last + 1⟩ ∧ BusF H G ob ro so B ⟨delS p B.ready, S', B.last + 1⟩ ∧ datS S' = (datS B.subs).map (Option.map fun x => (x.1, goneB (B.last + 1) r p x.2)) else BusAt G ob ro so B ∧ BusF H G ob ro so B B)
def goneOk2 (H : List AObj) (B : Bus) (p : List UInt8) (r : Rcd) (G : List AObj) : Prop := belowB B.ready p = false ∧ ∃ l, G = H ++ .box 36 (rRow r) :: l
def goneS1 (ob n : Nat) (p : List UInt8) (G : List AObj) : St := ⟨tmps 68 [(0, .ptr ob 0), (1, .str p), (5, .ptr n 0)], G⟩
def goneOk3 (H : List AObj) (ob ro so : Nat) (B : Bus) (p : List UInt8) (r : Rcd) (G : List AObj) : Prop := ∃ S', BusAt G ob ro so ⟨delS p B.ready, S', B.last + 1⟩ ∧ BusF H G ob ro so B ⟨delS p B.ready, S', B.last + 1⟩ ∧ datS S' = (datS B.subs).map (Option.map fun x => (x.1, goneB (B.last + 1) r p x.2))
def goneS3 (G : List AObj) : St := ⟨tmps 68 [], G⟩
def goneS4 (ob : Nat) (p : List UInt8) (n iI : Nat) (s : List AObj × Bus × List Nat) : St := ⟨tmps 68 [(0, .ptr ob 0), (1, .str p), (5, .ptr n 0), (49, .it iI)], s.1⟩
def goneI (H : List AObj) (ob ro so iI : Nat) (B : Bus) (p : List UInt8) (r : Rcd) (s : List AObj × Bus × List Nat) : Prop := TellI H ob ro so H.length iI (.box 36 (rRow r)) B ⟨delS p B.ready, B.subs, B.last + 1⟩ (goneB (B.last + 1) r p) s.1 s.2.1 s.2.2
def goneS2 (H : List AObj) (ob ro : Nat) (p : List UInt8) (r : Rcd) (n : Nat) (vis : List Nat) : St := ⟨tmps 68 [(0, .ptr ob 0), (1, .str p), (5, .ptr H.length 0), (25, .it (H.length + 1))], H ++ [.box 36 (rRow r), .iter ro n vis]⟩
def goneV (m : SMap Rcd) (p : List UInt8) (vis : List Nat) : Prop := vis.Nodup ∧ (∀ j ∈ vis, j < m.length) ∧ ∀ j ∈ vis, ∀ x, m[j]? = some (some x) → ancP p x.1 = false
theorem gone_c {H : List AObj} {ob ro so : Nat} {B : Bus} (h : BusAt H ob ro so B) (hq : 0 ≤ B.last ∧ B.last ≤ 1000000000) (p0 : List UInt8) (hpl : ∀ (j : Nat) (x : List UInt8 × Rcd), B.ready[j]? = some (some x) → placeB x.1 = true) :
    ACallsR Tryz.prog 27 [.ptr ob 0, .str p0] H (goneR H ob ro so B p0) := by
  have b1 := h.box
  have b2 := h.rdy
  have b3 := h.sbs
  have ap : ∀ {i : Nat} {x : AObj} (l : List AObj), H[i]? = some x → (H ++ l)[i]? = some x := fun l hx => by
    rw [List.getElem?_append_left (List.getElem?_eq_some_iff.1 hx).1]; exact hx
  have a1 := fun l => ap l b1
  have a2 := fun l => ap l b2
  have a3 := fun l => ap l b3
  have hk := keys_smK (fun r : Rcd => AV.agg (rRow r)) p0 B.ready
  have hf := find_smK (fun r : Rcd => AV.agg (rRow r)) p0 B.ready
  have bad : ∀ (n : Int) (l : List AObj), goneE B p0 = n → n ≠ 0 → goneR H ob ro so B p0 (.int .i64 n) (H ++ l) := fun n l e hn => by
    unfold goneR; rw [e, if_neg hn]; exact ⟨rfl, bus_app h l⟩
  refine acalls_WA _ c27_ok ?_
  unfold c27
  refine awp_go ?_
  simp +decide -dsimp -implicitDefEqProofs [go_sem]
  unfold goE
  cases hg : getS p0 B.ready with
  | none =>
    rw [hg] at hf
    refine awp_of ?_
    simp +decide -dsimp -implicitDefEqProofs [go_sem, b1, b2, hk, hf]
    refine endW_of _ _ (Wk.refl _ _) ?_
    simp +decide -dsimp -implicitDefEqProofs [go_sem, packR]
    exact bad 307 _ (by simp [goneE, hg]) (by decide)
  | some r =>
    rw [hg] at hf
    have hs : placeB p0 = true := by
      obtain ⟨j, hj⟩ := at_get hg
      exact hpl j _ hj
    have e0 := rRow_e r
    refine awp_go ?_
    simp +decide -dsimp -implicitDefEqProofs [go_sem, b1, b2, hk, hf, e0]
    unfold goE
    refine awp_go ?_
    simp +decide -dsimp -implicitDefEqProofs [go_sem]
    unfold goE
    refine awp_cutX (goneS1 ob H.length p0) (goneOk2 H B p0 r) ?_ ?_
    · refine awp_of ?_
      have c0 : ∀ l, (H ++ .box 36 (rRow r) :: l)[H.length + 1]? = l[0]? := fun l => by
        rw [List.getElem?_append_right (by omega)]; simp
      rw [rRow_e r] at c0
      simp +decide -dsimp -implicitDefEqProofs [go_sem, a1, a2]
      refine loop_ofA (S := List Nat) (goneS2 H ob ro p0 r B.ready.length) (fun s => B.ready.length - s.length) (goneV B.ready p0) [] ⟨by simp, by simp, by simp⟩ (Wk.jk ?_) ?_
      · simp +decide -dsimp -implicitDefEqProofs [go_sem, jkT]
      intro vis ⟨v1, v2, v3⟩
      unfold goneS2
      have i1 : (H ++ [AObj.box 36 (rRow r), .iter ro B.ready.length vis])[H.length + 1]? = some (.iter ro B.ready.length vis) := by
        rw [List.getElem?_append_right (by omega)]; simp
      refine awp_of ?_
      simp +decide -dsimp -implicitDefEqProofs [go_sem]
      refine mnext_of (i := H.length + 1) (m := ro) (kvs := rdM B.ready) i1 (a2 _) (length_smK _ _).symm (fun hA => ?_) (fun j kk x hj hgg hnj => ?_)
      · simp +decide -dsimp -implicitDefEqProofs [go_sem]
        refine cutX_of (S := List AObj) _ ⟨?_, _, rfl⟩ (Wk.jk ?_)
        · unfold belowB
          rw [List.any_eq_false]
          intro o ho
          obtain ⟨j, hj⟩ := List.mem_iff_getElem?.1 ho
          cases o with
          | none => simp
          | some x =>
            have := v3 j (hA j _ (smK_put hj).1 rfl) x hj
            simp [this]
        · simp +decide -dsimp -implicitDefEqProofs [go_sem, jkT]
      · obtain ⟨x, hjx, rfl, rfl⟩ := smK_at hj hgg
        have hj' : (rdM B.ready)[j]? = some (.str x.1, .agg (rRow x.2)) := hj
        have e1 := rRow_e x.2
        rw [e1] at hj'
        have hset : (H ++ [AObj.box 36 (rRow r), .iter ro B.ready.length vis]).set (H.length + 1) (.iter ro B.ready.length (vis ++ [j])) = H ++ [.box 36 (rRow r), .iter ro B.ready.length (vis ++ [j])] := by
          rw [List.set_append, if_neg (by omega)]
          simp
        have i2 : (H ++ [AObj.box 36 (rRow r), .iter ro B.ready.length (vis ++ [j])])[H.length + 1]? = some (.iter ro B.ready.length (vis ++ [j])) := by
          rw [List.getElem?_append_right (by omega)]; simp
        have ca := ancestor_c p0 x.1 hs (hpl j x hjx)
        rw [hset]
        simp +decide -dsimp -implicitDefEqProofs [go_sem, a2, hj', isGap]
        refine callE_pure ca rfl rfl ?_
        cases han : ancP p0 x.1 with
        | true =>
          simp +decide -dsimp -implicitDefEqProofs [go_sem]
          refine endW_of _ _ (Wk.refl _ _) ?_
          simp +decide -dsimp -implicitDefEqProofs [go_sem, packR]
          refine bad 308 _ ?_ (by decide)
          have : belowB B.ready p0 = true := List.any_eq_true.2 ⟨_, List.mem_of_getElem? hjx, by simpa using han⟩
          simp [goneE, hg, this]
        | false =>
          simp +decide -dsimp -implicitDefEqProofs [go_sem]
          refine next_of (S := List Nat) (vis ++ [j]) ⟨?_, ?_, ?_⟩ ?_ (Wk.jk ?_)
          · rw [List.nodup_append]
            refine ⟨v1, by simp, fun a ha b hb => ?_⟩
            simp at hb; subst hb
            exact fun e => hnj (e ▸ ha)
          · intro i hi
            rcases List.mem_append.1 hi with hi | hi
            · exact v2 i hi
            · simp at hi; subst hi; exact (List.getElem?_eq_some_iff.1 hjx).1
          · intro i hi y hy
            rcases List.mem_append.1 hi with hi | hi
            · exact v3 i hi y hy
            · simp at hi; subst hi; rw [hjx] at hy; cases hy; exact han
          · have h1 := vis_lt v1 v2 (j := j) (List.getElem?_eq_some_iff.1 hjx).1 hnj
            rw [List.length_append] at h1
            simp only [List.length_cons, List.length_nil] at h1
            show B.ready.length - (vis ++ [j]).length < B.ready.length - vis.length
            rw [List.length_append, List.length_cons, List.length_nil]; omega
          · simp +decide -dsimp -implicitDefEqProofs [go_sem, jkT]
    · intro G ⟨hbl, l, hl⟩
      have hE0 : goneE B p0 = 0 := by simp [goneE, hg, hbl]
      have gq : ∀ {i : Nat} {x : AObj}, H[i]? = some x → G[i]? = some x := fun hx => by rw [hl]; exact ap _ hx
      have q1 := gq b1
      have q2 := gq b2
      have q3 := gq b3
      have g4' : G[H.length]? = some (.box 36 (rRow r)) := by rw [hl]; simp
      have l1 := (List.getElem?_eq_some_iff.1 b1).1
      have l2 := (List.getElem?_eq_some_iff.1 b2).1
      have n1 : ob ≠ ro := at_ne b1 b2 (by simp)
      have n5 : H.length ≠ ro := by omega
      have n6 : H.length ≠ ob := by omega
      have hdel : delKv (.str p0) (smK (fun r : Rcd => AV.agg (rRow r)) B.ready) = smK (fun r : Rcd => AV.agg (rRow r)) (delS p0 B.ready) := del_smK _ _ _
      unfold goneS1
      refine awp_go ?_
      simp +decide -dsimp -implicitDefEqProofs [go_sem, q1, q2, hk, hdel]
      rw [if_pos (List.getElem?_eq_some_iff.1 q2).1]
      have bG : BusAt G ob ro so B ∧ BusF H G ob ro so B B := by rw [hl]; exact bus_app h _
      obtain ⟨bA, bF⟩ := bus_rdy bG.1 (delS p0 B.ready) (B.last + 1)
      have c4 : ((G.set ro (.map (rdM (delS p0 B.ready)))).set ob (.box 82 [.map ro, .map so, .int .i64 (B.last + 1)]))[H.length]? = some (.box 36 (rRow r)) := by
        rw [List.getElem?_set_ne (Ne.symm n6), List.getElem?_set_ne (Ne.symm n5)]; exact g4'
      have w1 : IntKind.i64.wrap (B.last + 1) = B.last + 1 := w64 (by omega) (by omega)
      have m1 : (G.set ro (.map (rdM (delS p0 B.ready))))[ob]? = some (.box 82 [.map ro, .map so, .int .i64 B.last]) := set_at q1 (.inl n1)
      have lo1 := (List.getElem?_eq_some_iff.1 m1).1
      have hfo : ¬ B.foot H.length := fun e => absurd (h.out _ e).1 (by omega)
      generalize hG1 : G.set ro (.map (rdM (delS p0 B.ready))) = G1 at *
      unfold goE
      refine awp_go ?_
      simp +decide -dsimp -implicitDefEqProofs [go_sem, m1, w1]
      rw [if_pos lo1]
      generalize hG2 : G1.set ob (.box 82 [.map ro, .map so, .int .i64 (B.last + 1)]) = G2 at *
      have e1 := bA.box
      have e3 := bA.sbs
      unfold goE
      refine awp_cutX goneS3 (goneOk3 H ob ro so B p0 r) ?_ ?_
      · refine awp_of ?_
        simp +decide -dsimp -implicitDefEqProofs [go_sem, e1, e3]
        have hl2 : H.length ≤ G2.length := Nat.le_trans bG.2.len bF.len
        have hT0 : goneI H ob ro so G2.length B p0 r (G2 ++ [.iter so B.subs.length []], ⟨delS p0 B.ready, B.subs, B.last + 1⟩, []) := by
          obtain ⟨k1, k2⟩ := bus_app bA [.iter so B.subs.length []]
          refine ⟨k1, (bG.2.trans bF).trans k2, ?_, hfo, hl2, by simp, fun e => Nat.lt_irrefl _ (bA.out _ e).1, rfl, rfl, rfl, fun j => by simp, by simp, by simp⟩
          rw [List.getElem?_append_left (List.getElem?_eq_some_iff.1 c4).1]; exact c4
        refine loop_ofA (S := List AObj × Bus × List Nat) (goneS4 ob p0 H.length G2.length) (fun s => B.subs.length - s.2.2.length) (goneI H ob ro so G2.length B p0 r) _ hT0 (Wk.jk ?_) ?_
        · simp +decide -dsimp -implicitDefEqProofs [go_sem, jkT]
        rintro ⟨G3, B', vis⟩ hI
        unfold goneI at hI
        simp only at hI
        have hni : ∀ m s l, AObj.box 36 (rRow r) ≠ .iter m s l := fun _ _ _ => by simp
        have hnu : AObj.box 36 (rRow r) ≠ .unborn := by simp
        unfold goneS4
        refine awp_wk (Wk.pushN 1) ?_
        simp only [List.replicate]
        have i1 : (G3 ++ [AObj.unborn])[G2.length]? = some (.iter so B'.subs.length vis) := by rw [List.getElem?_append_left (List.getElem?_eq_some_iff.1 hI.it).1]; exact hI.it
        have i2 : (G3 ++ [AObj.unborn])[so]? = some (.map (sbM B'.subs)) := (bus_app hI.at_ [.unborn]).1.sbs
        refine awp_of ?_
        simp +decide -dsimp -implicitDefEqProofs [go_sem]
        refine mnext_of (i := G2.length) (m := so) (kvs := sbM B'.subs) i1 i2 (length_smK _ _).symm (fun hA => ?_) (fun j kk x hj hg hnj => ?_)
        · simp +decide -dsimp -implicitDefEqProofs [go_sem]
          have hfin := hI.fin fun j p hj => hA j _ (smK_put hj).1 rfl
          have eB : B' = ⟨delS p0 B.ready, B'.subs, B.last + 1⟩ := by
            have e1 := hI.rd; have e2 := hI.la
            simp only at e1 e2
            rw [← e1, ← e2]
          obtain ⟨k1, k2⟩ := bus_app hI.at_ [.unborn]
          have k3 := hI.fr.trans k2
          rw [eB] at k1 k3
          refine cutX_of (S := List AObj) _ ⟨B'.subs, k1, k3, hfin⟩ (Wk.jk ?_)
          simp +decide -dsimp -implicitDefEqProofs [go_sem, jkT]
        · obtain ⟨p, hjp, rfl, rfl⟩ := smK_at hj hg
          have hR := hI.start hni j
          have hlast : B'.last = B.last + 1 := hI.la
          obtain ⟨sv, wv, s1, s2, s3, s4, s5, s6⟩ := hR.at_.sub j p hjp
          have r1 := hR.at_.box
          have r2 := hR.at_.sbs
          have r3 := hR.nn
          have r4 := hR.it
          have hj' : (sbM B'.subs)[j]? = some (.str p.1, .ptr p.2.o 0) := hj
          rw [rRow_e r] at r3
          rw [hlast] at r1
          have hSub := hR.at_.sub j p hjp
          have hsk := hI.skip hni hnj hjp
          have hst := fun {ys : List AV} {av : AV} {is : List Nat} {G4 : List AObj} => hI.sent hni hnu hnj hjp (f := 48) (ys := ys) (av := av) (is := is) (G3 := G4)
          have hu := hR.ub
          have huf := hR.uf
          generalize hG4 : (G3 ++ [AObj.unborn]).set G2.length (.iter so B'.subs.length (vis ++ [j])) = G4 at *
          simp +decide -dsimp -implicitDefEqProofs [go_sem, r2, r4, s2, hj', isGap]
          have hk := fun m => keys_smK AV.bool p0 m
          have hfm := fun m => find_smK AV.bool p0 m
          rcases s3 with ⟨hb, rfl⟩ | ⟨q, hq, rfl, h7⟩
          · have e9 : goneB (B.last + 1) r p0 p.2.s = p.2.s := goneB_behind hb
            simp +decide -dsimp -implicitDefEqProofs [go_sem]
            refine next_of (S := List AObj × Bus × List Nat) (G4, B', vis ++ [j]) (hsk e9) ?_ (Wk.jk ?_)
            · have h1 := vis_lt hI.nd hI.lt (j := j) (by rw [← hI.len]; exact (List.getElem?_eq_some_iff.1 hjp).1) hnj
              rw [List.length_append] at h1
              simp only [List.length_cons, List.length_nil] at h1
              show B.subs.length - (vis ++ [j]).length < B.subs.length - vis.length
              rw [List.length_append, List.length_cons, List.length_nil]; omega
            · simp +decide -dsimp -implicitDefEqProofs [go_sem, jkT]
          · cases hgs : getS p0 p.2.s.seen with
            | none =>
              have e9 : goneB (B.last + 1) r p0 p.2.s = p.2.s := by simp [goneB, hgs]
              have hfm' := hfm p.2.s.seen
              rw [hgs] at hfm'
              simp +decide -dsimp -implicitDefEqProofs [go_sem, r1, r3, h7, hk, hfm']
              refine next_of (S := List AObj × Bus × List Nat) (G4, B', vis ++ [j]) (hsk e9) ?_ (Wk.jk ?_)
              · have h1 := vis_lt hI.nd hI.lt (j := j) (by rw [← hI.len]; exact (List.getElem?_eq_some_iff.1 hjp).1) hnj
                rw [List.length_append] at h1
                simp only [List.length_cons, List.length_nil] at h1
                show B.subs.length - (vis ++ [j]).length < B.subs.length - vis.length
                rw [List.length_append, List.length_cons, List.length_nil]; omega
              · simp +decide -dsimp -implicitDefEqProofs [go_sem, jkT]
            | some b =>
              have hfm' := hfm p.2.s.seen
              rw [hgs] at hfm'
              cases b with
              | false =>
                have e9 : goneB (B.last + 1) r p0 p.2.s = p.2.s := by simp [goneB, hgs]
                simp +decide -dsimp -implicitDefEqProofs [go_sem, r1, r3, h7, hk, hfm']
                refine next_of (S := List AObj × Bus × List Nat) (G4, B', vis ++ [j]) (hsk e9) ?_ (Wk.jk ?_)
                · have h1 := vis_lt hI.nd hI.lt (j := j) (by rw [← hI.len]; exact (List.getElem?_eq_some_iff.1 hjp).1) hnj
                  rw [List.length_append] at h1
                  simp only [List.length_cons, List.length_nil] at h1
                  show B.subs.length - (vis ++ [j]).length < B.subs.length - vis.length
                  rw [List.length_append, List.length_cons, List.length_nil]; omega
                · simp +decide -dsimp -implicitDefEqProofs [go_sem, jkT]
              | true =>
                have e9 : goneB (B.last + 1) r p0 p.2.s = p.2.s.send ⟨B.last + 1, 2, r⟩ := by simp [goneB, hgs]
                simp +decide -dsimp -implicitDefEqProofs [go_sem, r1, r3, h7, hk, hfm']
                obtain ⟨is, G5, ho, h0, his, hsu⟩ := send_L ⟨B.last + 1, 2, r⟩ hSub hu (fun e => huf ⟨j, p, hjp, e⟩)
                have hxs : [AV.ptr p.2.o 0, .agg [.int .i64 (B.last + 1), .int .i64 2, .str r.path, .int .i64 r.index, .imm (r.props.map aRow), .imm (r.tags.map sRow), .imm (r.links.map sRow), .imm (r.run.map sRow), .imm (r.load.map sRow), .str r.name, .int .i64 r.prio, .str r.owner, .str r.group, .int .i64 r.mode]] = renL is [.ptr 0 0, .agg (ntRow ⟨B.last + 1, 2, r⟩)] := by
                  simp only [renL, ren, h0, ntRow_ren]
                  rfl
                refine callDE_over ho hxs fun pre wr hp hwr hup => ?_
                simp +decide -dsimp -implicitDefEqProofs [go_sem, hp, hwr, hup]
                refine ⟨ordC 0 ob H.length is, ?_⟩
                have hTell := hst ho his (by rw [e9]; exact hsu)
                refine next_of (S := List AObj × Bus × List Nat) (G5, B'.put j p.1 ⟨p.2.o, G3.length :: p.2.fp, goneB (B.last + 1) r p0 p.2.s⟩, vis ++ [j]) hTell ?_ (Wk.jk ?_)
                · have := hTell.nd
                  have h1 := vis_lt hI.nd hI.lt (j := j) (by rw [← hI.len]; exact (List.getElem?_eq_some_iff.1 hjp).1) hnj
                  rw [List.length_append] at h1
                  simp only [List.length_cons, List.length_nil] at h1
                  show B.subs.length - (vis ++ [j]).length < B.subs.length - vis.length
                  rw [List.length_append, List.length_cons, List.length_nil]; omega
                · simp +decide -dsimp -implicitDefEqProofs [go_sem, jkT]
      · intro G3 ⟨S', k1, k2, k3⟩
        refine awp_of ?_
        unfold goneS3
        simp +decide -dsimp -implicitDefEqProofs [go_sem]
        refine endW_of _ _ (Wk.refl _ _) ?_
        simp +decide -dsimp -implicitDefEqProofs [go_sem, packR]
        unfold goneR
        rw [hE0, if_pos rfl]
        exact ⟨rfl, r, S', hg, k1, k2, k3⟩
end Go.Ab
namespace Go.Ab
open Go Go.Proofs
def c146 : AFn := ⟨(sq [(mv 10 1), (ox 11 (b1 .add 10 1)), (mv 8 11)] (.block 0 (.loop (.seq (sq [(mv 12 8), (mv 13 2), (ox 14 (b2 .lss 12 13))] (cd 14 .skip (.exit 0))) (.seq (.block 1 (sq [(mv 17 8), (mv 9 17)] (.block 2 (.loop (.seq (.seq (.draw [(mv 18 9), (mv 19 1), (ox 20 (b2 .gtr 18 19)), (mv 21 20), (ot 22 (.mov (.t 3)) 21), (ot 23 (.mov (.t 0)) 21), (ot 24 (.mov (.t 9)) 21), (ot 25 (.iaddr none 1 (.t 23) (.t 24)) 21), (ot 26 (ld 25) 21), (ot 27 (.mov (.t 0)) 21), (ot 28 (.mov (.t 9)) 21), (ot 29 (b1 .sub 28 1) 21), (ot 30 (.iaddr none 1 (.t 27) (.t 29)) 21), (ot 31 (ld 30) 21), (ot 32 (.call (.t 22) [(.t 26), (.t 31)]) 21), (ot 33 (b1 .lss 32 0) 21), (ox 34 (.pick (.t 21) (.t 33) (.v (.bool false))))] [0, 0, 3, 7, 15, 15, 15, 111, 239, 15, 15, 1039, 3599, 7695, 16383, 32767, 65535]) (cd 34 .skip (.exit 2))) (.seq (.block 3 (.draw [(mv 37 0), (mv 38 9), (mv 39 0), (mv 40 9), (ox 41 (b1 .sub 40 1)), (mv 42 0), (mv 43 9), (ox 44 (b1 .sub 43 1)), (ox 45 (.iaddr none 1 (.t 42) (.t 44))), (ox 46 (ld 45)), (mv 47 0), (mv 48 9), (ox 49 (.iaddr none 1 (.t 47) (.t 48))), (ox 50 (ld 49)), (ox 51 (.iaddr none 1 (.t 37) (.t 38))), (on (.store none (.t 51) (.t 46))), (ox 52 (.iaddr none 1 (.t 39) (.t 41))), (on (.store none (.t 52) (.t 50)))] [0, 0, 0, 0, 8, 0, 0, 64, 224, 480, 0, 0, 3072, 7168, 16355, 32739, 65535, 131071])) (.ops [(mv 35 9), (ox 36 (b1 .sub 35 1)), (mv 9 36)]))))))) (.ops [(mv 15 8), (ox 16 (b1 .add 15 1)), (mv 8 16)])))))), 53, []⟩
theorem c146_ok : compileF Tryz.prog [] 146 = some c146 := by kernel_rfl
def c147 : AFn := ⟨(sq [(mv 13 1), (mv 8 13)] (sq [(ox 9 (.mov (iv 0)))] (sq [(mv 14 2), (mv 15 1), (ox 16 (b2 .sub 14 15)), (mv 10 16)] (.seq (sq [(mv 17 10), (ox 18 (b1 .sub 17 1)), (ox 19 (b1 .quo 18 2)), (mv 11 19)] (.block 0 (.loop (.seq (sq [(mv 20 11), (ox 21 (b1 .geq 20 0))] (cd 21 .skip (.exit 0))) (.seq (.block 1 (.ops [(mv 24 0), (mv 25 11), (mv 26 10), (mv 27 8), (mv 28 3), (ox 29 (fc 179 [(.t 24), (.t 25), (.t 26), (.t 27), (.t 28)]))])) (.ops [(mv 22 11), (ox 23 (b1 .sub 22 1)), (mv 11 23)])))))) (sq [(mv 30 10), (ox 31 (b1 .sub 30 1)), (mv 12 31)] (.block 2 (.loop (.seq (sq [(mv 32 12), (ox 33 (b1 .geq 32 0))] (cd 33 .skip (.exit 2))) (.seq (.block 3 (.seq (.draw [(mv 36 0), (mv 37 8), (mv 38 0), (mv 39 8), (mv 40 12), (ox 41 (b2 .add 39 40)), (mv 42 0), (mv 43 8), (mv 44 12), (ox 45 (b2 .add 43 44)), (ox 46 (.iaddr none 1 (.t 42) (.t 45))), (ox 47 (ld 46)), (mv 48 0), (mv 49 8), (ox 50 (.iaddr none 1 (.t 48) (.t 49))), (ox 51 (ld 50)), (ox 52 (.iaddr none 1 (.t 36) (.t 37))), (on (.store none (.t 52) (.t 47))), (ox 53 (.iaddr none 1 (.t 38) (.t 41))), (on (.store none (.t 53) (.t 51)))] [0, 0, 0, 0, 0, 24, 0, 0, 0, 384, 960, 1984, 0, 0, 12288, 28672, 65475, 131011, 262143, 524287]) (.ops [(mv 54 0), (mv 55 9), (mv 56 12), (mv 57 8), (mv 58 3), (ox 59 (fc 179 [(.t 54), (.t 55), (.t 56), (.t 57), (.t 58)]))]))) (.ops [(mv 34 12), (ox 35 (b1 .sub 34 1)), (mv 12 35)])))))))))), 60, []⟩
theorem c147_ok : compileF Tryz.prog [] 147 = some c147 := by kernel_rfl
def c148 : AFn := ⟨(sq [(mv 13 2), (mv 14 1), (ox 15 (b2 .sub 13 14)), (mv 8 15)] (sq [(mv 16 8), (ox 17 (b1 .geq 16 8))] (cd 17 (sq [(mv 18 8), (ox 19 (.conv .u64 (.t 18))), (ox 9 (.alloc 215 [(.int .u64 0)])), (on (.store none (.t 9) (.t 19)))] (sq [(mv 20 8), (ox 21 (fc 180 [(.t 20)])), (mv 10 21)] (sq [(mv 22 1), (mv 23 8), (ox 24 (b1 .quo 23 4)), (ox 25 (b1 .mul 24 2)), (ox 26 (b2 .add 22 25)), (ox 27 (b1 .sub 26 1)), (mv 11 27)] (.block 0 (.loop (.seq (sq [(mv 28 11), (mv 29 1), (mv 30 8), (ox 31 (b1 .quo 30 4)), (ox 32 (b1 .mul 31 2)), (ox 33 (b2 .add 29 32)), (ox 34 (b1 .add 33 1)), (ox 35 (b2 .leq 28 34))] (cd 35 .skip (.exit 0))) (.seq (.block 1 (sq [(ox 38 (fc 181 [(.t 9)])), (mv 39 10), (ox 40 (.bin .sub (.t 39) (.v (.int .u64 1)))), (ox 41 (b2 .and 38 40)), (ox 42 (.conv .i64 (.t 41))), (mv 12 42)] (.seq (sq [(mv 43 12), (mv 44 8), (ox 45 (b2 .geq 43 44))] (cd 45 (.ops [(mv 46 12), (mv 47 8), (ox 48 (b2 .sub 46 47)), (mv 12 48)]) .skip)) (.draw [(mv 49 0), (mv 50 11), (mv 51 0), (mv 52 1), (mv 53 12), (ox 54 (b2 .add 52 53)), (mv 55 0), (mv 56 1), (mv 57 12), (ox 58 (b2 .add 56 57)), (ox 59 (.iaddr none 1 (.t 55) (.t 58))), (ox 60 (ld 59)), (mv 61 0), (mv 62 11), (ox 63 (.iaddr none 1 (.t 61) (.t 62))), (ox 64 (ld 63)), (ox 65 (.iaddr none 1 (.t 49) (.t 50))), (on (.store none (.t 65) (.t 60))), (ox 66 (.iaddr none 1 (.t 51) (.t 54))), (on (.store none (.t 66) (.t 64)))] [0, 0, 0, 0, 0, 24, 0, 0, 0, 384, 960, 1984, 0, 0, 12288, 28672, 65475, 131011, 262143, 524287])))) (.ops [(mv 36 11), (ox 37 (b1 .add 36 1)), (mv 11 37)])))))))) .skip))), 67, []⟩
theorem c148_ok : compileF Tryz.prog [] 148 = some c148 := by kernel_rfl
def c149 : AFn := ⟨(sq [(ox 8 (.mov (iv 0))), (ox 9 (.mov (iv 0)))] (sq [(mv 15 2), (mv 16 1), (ox 17 (b2 .sub 15 16)), (mv 10 17)] (sq [(ox 11 (.alloc 3 [(.int .i64 0)]))] (sq [(mv 18 1), (mv 19 10), (ox 20 (b1 .quo 19 4)), (ox 21 (b1 .mul 20 1)), (ox 22 (b2 .add 18 21)), (mv 12 22)] (sq [(mv 23 1), (mv 24 10), (ox 25 (b1 .quo 24 4)), (ox 26 (b1 .mul 25 2)), (ox 27 (b2 .add 23 26)), (mv 13 27)] (sq [(mv 28 1), (mv 29 10), (ox 30 (b1 .quo 29 4)), (ox 31 (b1 .mul 30 3)), (ox 32 (b2 .add 28 31)), (mv 14 32)] (.seq (sq [(mv 33 10), (ox 34 (b1 .geq 33 8))] (cd 34 (.seq (sq [(mv 35 10), (ox 36 (b1 .geq 35 50))] (cd 36 (sq [(mv 37 0), (mv 38 12), (mv 39 3), (ox 40 (fc 182 [(.t 37), (.t 38), (.t 11), (.t 39)])), (mv 12 40)] (sq [(mv 41 0), (mv 42 13), (mv 43 3), (ox 44 (fc 182 [(.t 41), (.t 42), (.t 11), (.t 43)])), (mv 13 44)] (.ops [(mv 45 0), (mv 46 14), (mv 47 3), (ox 48 (fc 182 [(.t 45), (.t 46), (.t 11), (.t 47)])), (mv 14 48)]))) .skip)) (.ops [(mv 49 0), (mv 50 12), (mv 51 13), (mv 52 14), (mv 53 3), (ox 54 (fc 183 [(.t 49), (.t 50), (.t 51), (.t 52), (.t 11), (.t 53)])), (mv 13 54)])) .skip)) (sq [(ox 55 (ld 11))] (.block 0 (sq [(ox 58 (b1 .eql 55 0)), (mv 57 58)] (cd 57 (sq [(mv 59 13), (mv 8 59), (ox 9 (.mov (iv 1)))] .ret) (sq [(ox 61 (b1 .eql 55 12)), (mv 60 61)] (cd 60 (sq [(mv 62 13), (mv 8 62), (ox 9 (.mov (iv 2)))] .ret) (sq [(mv 56 13), (mv 8 56), (ox 9 (.mov (iv 0)))] .ret)))))))))))))), 63, [(.tmp 8), (.tmp 9)]⟩
theorem c149_ok : compileF Tryz.prog [] 149 = some c149 := by kernel_rfl
def c150 : AFn := ⟨(sq [(mv 10 1), (mv 8 10)] (sq [(mv 11 2), (ox 12 (b1 .sub 11 1)), (mv 9 12)] (.block 0 (.loop (.seq (sq [(mv 13 8), (mv 14 9), (ox 15 (b2 .lss 13 14))] (cd 15 .skip (.exit 0))) (.block 1 (.seq (.draw [(mv 16 0), (mv 17 8), (mv 18 0), (mv 19 9), (mv 20 0), (mv 21 9), (ox 22 (.iaddr none 1 (.t 20) (.t 21))), (ox 23 (ld 22)), (mv 24 0), (mv 25 8), (ox 26 (.iaddr none 1 (.t 24) (.t 25))), (ox 27 (ld 26)), (ox 28 (.iaddr none 1 (.t 16) (.t 17))), (on (.store none (.t 28) (.t 23))), (ox 29 (.iaddr none 1 (.t 18) (.t 19))), (on (.store none (.t 29) (.t 27)))] [0, 0, 0, 0, 0, 0, 48, 112, 0, 0, 768, 1792, 4083, 8179, 16383, 32767]) (sq [(mv 30 8), (ox 31 (b1 .add 30 1)), (mv 8 31)] (.ops [(mv 32 9), (ox 33 (b1 .sub 32 1)), (mv 9 33)]))))))))), 34, []⟩
theorem c150_ok : compileF Tryz.prog [] 150 = some c150 := by kernel_rfl
def c151 : AFn := ⟨(sq [(ox 8 (mb false))] (sq [(mv 13 1), (ox 14 (b1 .add 13 1)), (mv 9 14)] (.seq (sq [(ox 10 (.mov (iv 0)))] (.block 0 (.loop (.seq (sq [(mv 15 10), (ox 16 (b1 .lss 15 5))] (cd 16 .skip (.exit 0))) (.seq (.block 1 (.seq (.block 2 (.loop (.seq (.seq (.draw [(mv 19 9), (mv 20 2), (ox 21 (b2 .lss 19 20)), (mv 22 21), (ot 23 (.mov (.t 3)) 22), (ot 24 (.mov (.t 0)) 22), (ot 25 (.mov (.t 9)) 22), (ot 26 (.iaddr none 1 (.t 24) (.t 25)) 22), (ot 27 (ld 26) 22), (ot 28 (.mov (.t 0)) 22), (ot 29 (.mov (.t 9)) 22), (ot 30 (b1 .sub 29 1) 22), (ot 31 (.iaddr none 1 (.t 28) (.t 30)) 22), (ot 32 (ld 31) 22), (ot 33 (.call (.t 23) [(.t 27), (.t 32)]) 22), (ot 34 (b1 .lss 33 0) 22), (ot 35 (.un .not (.t 34)) 22), (ox 36 (.pick (.t 22) (.t 35) (.v (.bool false))))] [0, 0, 3, 7, 15, 15, 15, 111, 239, 15, 15, 1039, 3599, 7695, 16383, 32767, 65535, 131071]) (cd 36 .skip (.exit 2))) (.block 3 (.ops [(mv 37 9), (ox 38 (b1 .add 37 1)), (mv 9 38)]))))) (.seq (sq [(mv 39 9), (mv 40 2), (ox 41 (b2 .eql 39 40))] (cd 41 (sq [(ox 8 (mb true))] .ret) .skip)) (.seq (sq [(mv 42 2), (mv 43 1), (ox 44 (b2 .sub 42 43)), (ox 45 (b1 .lss 44 50))] (cd 45 (sq [(ox 8 (mb false))] .ret) .skip)) (.seq (.draw [(mv 46 0), (mv 47 9), (mv 48 0), (mv 49 9), (ox 50 (b1 .sub 49 1)), (mv 51 0), (mv 52 9), (ox 53 (b1 .sub 52 1)), (ox 54 (.iaddr none 1 (.t 51) (.t 53))), (ox 55 (ld 54)), (mv 56 0), (mv 57 9), (ox 58 (.iaddr none 1 (.t 56) (.t 57))), (ox 59 (ld 58)), (ox 60 (.iaddr none 1 (.t 46) (.t 47))), (on (.store none (.t 60) (.t 55))), (ox 61 (.iaddr none 1 (.t 48) (.t 50))), (on (.store none (.t 61) (.t 59)))] [0, 0, 0, 0, 8, 0, 0, 64, 224, 480, 0, 0, 3072, 7168, 16355, 32739, 65535, 131071]) (.seq (sq [(mv 62 9), (mv 63 1), (ox 64 (b2 .sub 62 63)), (ox 65 (b1 .geq 64 2))] (cd 65 (sq [(mv 66 9), (ox 67 (b1 .sub 66 1)), (mv 11 67)] (.block 4 (.loop (.seq (sq [(mv 68 11), (ox 69 (b1 .geq 68 1))] (cd 69 .skip (.exit 4))) (.seq (.block 5 (.seq (.seq (.draw [(mv 72 3), (mv 73 0), (mv 74 11), (ox 75 (.iaddr none 1 (.t 73) (.t 74))), (ox 76 (ld 75)), (mv 77 0), (mv 78 11), (ox 79 (b1 .sub 78 1)), (ox 80 (.iaddr none 1 (.t 77) (.t 79))), (ox 81 (ld 80)), (ox 82 (.call (.t 72) [(.t 76), (.t 81)])), (ox 83 (b1 .lss 82 0)), (ox 84 (.un .not (.t 83)))] [0, 0, 0, 6, 14, 0, 0, 64, 224, 480, 1023, 2047, 4095]) (cd 84 (.exit 4) .skip)) (.draw [(mv 85 0), (mv 86 11), (mv 87 0), (mv 88 11), (ox 89 (b1 .sub 88 1)), (mv 90 0), (mv 91 11), (ox 92 (b1 .sub 91 1)), (ox 93 (.iaddr none 1 (.t 90) (.t 92))), (ox 94 (ld 93)), (mv 95 0), (mv 96 11), (ox 97 (.iaddr none 1 (.t 95) (.t 96))), (ox 98 (ld 97)), (ox 99 (.iaddr none 1 (.t 85) (.t 86))), (on (.store none (.t 99) (.t 94))), (ox 100 (.iaddr none 1 (.t 87) (.t 89))), (on (.store none (.t 100) (.t 98)))] [0, 0, 0, 0, 8, 0, 0, 64, 224, 480, 0, 0, 3072, 7168, 16355, 32739, 65535, 131071]))) (.ops [(mv 70 11), (ox 71 (b1 .sub 70 1)), (mv 11 71)])))))) .skip)) (sq [(mv 101 2), (mv 102 9), (ox 103 (b2 .sub 101 102)), (ox 104 (b1 .geq 103 2))] (cd 104 (sq [(mv 105 9), (ox 106 (b1 .add 105 1)), (mv 12 106)] (.block 6 (.loop (.seq (sq [(mv 107 12), (mv 108 2), (ox 109 (b2 .lss 107 108))] (cd 109 .skip (.exit 6))) (.seq (.block 7 (.seq (.seq (.draw [(mv 112 3), (mv 113 0), (mv 114 12), (ox 115 (.iaddr none 1 (.t 113) (.t 114))), (ox 116 (ld 115)), (mv 117 0), (mv 118 12), (ox 119 (b1 .sub 118 1)), (ox 120 (.iaddr none 1 (.t 117) (.t 119))), (ox 121 (ld 120)), (ox 122 (.call (.t 112) [(.t 116), (.t 121)])), (ox 123 (b1 .lss 122 0)), (ox 124 (.un .not (.t 123)))] [0, 0, 0, 6, 14, 0, 0, 64, 224, 480, 1023, 2047, 4095]) (cd 124 (.exit 6) .skip)) (.draw [(mv 125 0), (mv 126 12), (mv 127 0), (mv 128 12), (ox 129 (b1 .sub 128 1)), (mv 130 0), (mv 131 12), (ox 132 (b1 .sub 131 1)), (ox 133 (.iaddr none 1 (.t 130) (.t 132))), (ox 134 (ld 133)), (mv 135 0), (mv 136 12), (ox 137 (.iaddr none 1 (.t 135) (.t 136))), (ox 138 (ld 137)), (ox 139 (.iaddr none 1 (.t 125) (.t 126))), (on (.store none (.t 139) (.t 134))), (ox 140 (.iaddr none 1 (.t 127) (.t 129))), (on (.store none (.t 140) (.t 138)))] [0, 0, 0, 0, 8, 0, 0, 64, 224, 480, 0, 0, 3072, 7168, 16355, 32739, 65535, 131071]))) (.ops [(mv 110 12), (ox 111 (b1 .add 110 1)), (mv 12 111)])))))) .skip)))))))) (.ops [(mv 17 10), (ox 18 (b1 .add 17 1)), (mv 10 18)])))))) (sq [(ox 8 (mb false))] .ret)))), 141, [(.tmp 8)]⟩
theorem c151_ok : compileF Tryz.prog [] 151 = some c151 := by kernel_rfl
def c152 : AFn := ⟨(sq [(ox 10 (.mov (iv 0)))] (.seq (.draw [(mv 13 0), (mv 14 1), (mv 15 0), (mv 16 3), (mv 17 0), (mv 18 3), (ox 19 (.iaddr none 1 (.t 17) (.t 18))), (ox 20 (ld 19)), (mv 21 0), (mv 22 1), (ox 23 (.iaddr none 1 (.t 21) (.t 22))), (ox 24 (ld 23)), (ox 25 (.iaddr none 1 (.t 13) (.t 14))), (on (.store none (.t 25) (.t 20))), (ox 26 (.iaddr none 1 (.t 15) (.t 16))), (on (.store none (.t 26) (.t 24)))] [0, 0, 0, 0, 0, 0, 48, 112, 0, 0, 768, 1792, 4083, 8179, 16383, 32767]) (sq [(mv 27 1), (ox 28 (b1 .add 27 1)), (mv 29 2), (ox 30 (b1 .sub 29 1)), (mv 11 28), (mv 12 30)] (.seq (.block 0 (.loop (.block 1 (.seq (.block 2 (.loop (.seq (.seq (.draw [(mv 31 11), (mv 32 12), (ox 33 (b2 .leq 31 32)), (mv 34 33), (ot 35 (.mov (.t 4)) 34), (ot 36 (.mov (.t 0)) 34), (ot 37 (.mov (.t 1)) 34), (ot 38 (.iaddr none 1 (.t 36) (.t 37)) 34), (ot 39 (ld 38) 34), (ot 40 (.mov (.t 0)) 34), (ot 41 (.mov (.t 11)) 34), (ot 42 (.iaddr none 1 (.t 40) (.t 41)) 34), (ot 43 (ld 42) 34), (ot 44 (.call (.t 35) [(.t 39), (.t 43)]) 34), (ot 45 (b1 .lss 44 0) 34), (ot 46 (.un .not (.t 45)) 34), (ox 47 (.pick (.t 34) (.t 46) (.v (.bool false))))] [0, 0, 3, 7, 15, 15, 15, 111, 239, 15, 15, 1551, 3599, 8191, 16383, 32767, 65535]) (cd 47 .skip (.exit 2))) (.block 3 (.ops [(mv 48 11), (ox 49 (b1 .add 48 1)), (mv 11 49)]))))) (.seq (.block 4 (.loop (.seq (.seq (.draw [(mv 50 11), (mv 51 12), (ox 52 (b2 .leq 50 51)), (mv 53 52), (ot 54 (.mov (.t 4)) 53), (ot 55 (.mov (.t 0)) 53), (ot 56 (.mov (.t 1)) 53), (ot 57 (.iaddr none 1 (.t 55) (.t 56)) 53), (ot 58 (ld 57) 53), (ot 59 (.mov (.t 0)) 53), (ot 60 (.mov (.t 12)) 53), (ot 61 (.iaddr none 1 (.t 59) (.t 60)) 53), (ot 62 (ld 61) 53), (ot 63 (.call (.t 54) [(.t 58), (.t 62)]) 53), (ot 64 (b1 .lss 63 0) 53), (ox 65 (.pick (.t 53) (.t 64) (.v (.bool false))))] [0, 0, 3, 7, 15, 15, 15, 111, 239, 15, 15, 1551, 3599, 8191, 16383, 32767]) (cd 65 .skip (.exit 4))) (.block 5 (.ops [(mv 66 12), (ox 67 (b1 .sub 66 1)), (mv 12 67)]))))) (.seq (sq [(mv 68 11), (mv 69 12), (ox 70 (b2 .gtr 68 69))] (cd 70 (.exit 0) .skip)) (.seq (.draw [(mv 71 0), (mv 72 11), (mv 73 0), (mv 74 12), (mv 75 0), (mv 76 12), (ox 77 (.iaddr none 1 (.t 75) (.t 76))), (ox 78 (ld 77)), (mv 79 0), (mv 80 11), (ox 81 (.iaddr none 1 (.t 79) (.t 80))), (ox 82 (ld 81)), (ox 83 (.iaddr none 1 (.t 71) (.t 72))), (on (.store none (.t 83) (.t 78))), (ox 84 (.iaddr none 1 (.t 73) (.t 74))), (on (.store none (.t 84) (.t 82)))] [0, 0, 0, 0, 0, 0, 48, 112, 0, 0, 768, 1792, 4083, 8179, 16383, 32767]) (sq [(mv 85 11), (ox 86 (b1 .add 85 1)), (mv 11 86)] (.ops [(mv 87 12), (ox 88 (b1 .sub 87 1)), (mv 12 88)]))))))))) (sq [(mv 89 11), (mv 10 89)] .ret))))), 90, [(.tmp 10)]⟩
theorem c152_ok : compileF Tryz.prog [] 152 = some c152 := by kernel_rfl
def c153 : AFn := ⟨(sq [(ox 10 (.mov (iv 0))), (ox 11 (mb false))] (.seq (.draw [(mv 14 0), (mv 15 1), (mv 16 0), (mv 17 3), (mv 18 0), (mv 19 3), (ox 20 (.iaddr none 1 (.t 18) (.t 19))), (ox 21 (ld 20)), (mv 22 0), (mv 23 1), (ox 24 (.iaddr none 1 (.t 22) (.t 23))), (ox 25 (ld 24)), (ox 26 (.iaddr none 1 (.t 14) (.t 15))), (on (.store none (.t 26) (.t 21))), (ox 27 (.iaddr none 1 (.t 16) (.t 17))), (on (.store none (.t 27) (.t 25)))] [0, 0, 0, 0, 0, 0, 48, 112, 0, 0, 768, 1792, 4083, 8179, 16383, 32767]) (sq [(mv 28 1), (ox 29 (b1 .add 28 1)), (mv 30 2), (ox 31 (b1 .sub 30 1)), (mv 12 29), (mv 13 31)] (.seq (.block 0 (.loop (.seq (.seq (.draw [(mv 32 12), (mv 33 13), (ox 34 (b2 .leq 32 33)), (mv 35 34), (ot 36 (.mov (.t 4)) 35), (ot 37 (.mov (.t 0)) 35), (ot 38 (.mov (.t 12)) 35), (ot 39 (.iaddr none 1 (.t 37) (.t 38)) 35), (ot 40 (ld 39) 35), (ot 41 (.mov (.t 0)) 35), (ot 42 (.mov (.t 1)) 35), (ot 43 (.iaddr none 1 (.t 41) (.t 42)) 35), (ot 44 (ld 43) 35), (ot 45 (.call (.t 36) [(.t 40), (.t 44)]) 35), (ot 46 (b1 .lss 45 0) 35), (ox 47 (.pick (.t 35) (.t 46) (.v (.bool false))))] [0, 0, 3, 7, 15, 15, 15, 111, 239, 15, 15, 1551, 3599, 8191, 16383, 32767]) (cd 47 .skip (.exit 0))) (.block 1 (.ops [(mv 48 12), (ox 49 (b1 .add 48 1)), (mv 12 49)]))))) (.seq (.block 2 (.loop (.seq (.seq (.draw [(mv 50 12), (mv 51 13), (ox 52 (b2 .leq 50 51)), (mv 53 52), (ot 54 (.mov (.t 4)) 53), (ot 55 (.mov (.t 0)) 53), (ot 56 (.mov (.t 13)) 53), (ot 57 (.iaddr none 1 (.t 55) (.t 56)) 53), (ot 58 (ld 57) 53), (ot 59 (.mov (.t 0)) 53), (ot 60 (.mov (.t 1)) 53), (ot 61 (.iaddr none 1 (.t 59) (.t 60)) 53), (ot 62 (ld 61) 53), (ot 63 (.call (.t 54) [(.t 58), (.t 62)]) 53), (ot 64 (b1 .lss 63 0) 53), (ot 65 (.un .not (.t 64)) 53), (ox 66 (.pick (.t 53) (.t 65) (.v (.bool false))))] [0, 0, 3, 7, 15, 15, 15, 111, 239, 15, 15, 1551, 3599, 8191, 16383, 32767, 65535]) (cd 66 .skip (.exit 2))) (.block 3 (.ops [(mv 67 13), (ox 68 (b1 .sub 67 1)), (mv 13 68)]))))) (.seq (sq [(mv 69 12), (mv 70 13), (ox 71 (b2 .gtr 69 70))] (cd 71 (.seq (.draw [(mv 72 0), (mv 73 13), (mv 74 0), (mv 75 1), (mv 76 0), (mv 77 1), (ox 78 (.iaddr none 1 (.t 76) (.t 77))), (ox 79 (ld 78)), (mv 80 0), (mv 81 13), (ox 82 (.iaddr none 1 (.t 80) (.t 81))), (ox 83 (ld 82)), (ox 84 (.iaddr none 1 (.t 72) (.t 73))), (on (.store none (.t 84) (.t 79))), (ox 85 (.iaddr none 1 (.t 74) (.t 75))), (on (.store none (.t 85) (.t 83)))] [0, 0, 0, 0, 0, 0, 48, 112, 0, 0, 768, 1792, 4083, 8179, 16383, 32767]) (sq [(mv 86 13), (mv 10 86), (ox 11 (mb true))] .ret)) .skip)) (.seq (.draw [(mv 87 0), (mv 88 12), (mv 89 0), (mv 90 13), (mv 91 0), (mv 92 13), (ox 93 (.iaddr none 1 (.t 91) (.t 92))), (ox 94 (ld 93)), (mv 95 0), (mv 96 12), (ox 97 (.iaddr none 1 (.t 95) (.t 96))), (ox 98 (ld 97)), (ox 99 (.iaddr none 1 (.t 87) (.t 88))), (on (.store none (.t 99) (.t 94))), (ox 100 (.iaddr none 1 (.t 89) (.t 90))), (on (.store none (.t 100) (.t 98)))] [0, 0, 0, 0, 0, 0, 48, 112, 0, 0, 768, 1792, 4083, 8179, 16383, 32767]) (sq [(mv 101 12), (ox 102 (b1 .add 101 1)), (mv 12 102)] (sq [(mv 103 13), (ox 104 (b1 .sub 103 1)), (mv 13 104)] (.seq (.block 4 (.loop (.block 5 (.seq (.block 6 (.loop (.seq (.seq (.draw [(mv 105 12), (mv 106 13), (ox 107 (b2 .leq 105 106)), (mv 108 107), (ot 109 (.mov (.t 4)) 108), (ot 110 (.mov (.t 0)) 108), (ot 111 (.mov (.t 12)) 108), (ot 112 (.iaddr none 1 (.t 110) (.t 111)) 108), (ot 113 (ld 112) 108), (ot 114 (.mov (.t 0)) 108), (ot 115 (.mov (.t 1)) 108), (ot 116 (.iaddr none 1 (.t 114) (.t 115)) 108), (ot 117 (ld 116) 108), (ot 118 (.call (.t 109) [(.t 113), (.t 117)]) 108), (ot 119 (b1 .lss 118 0) 108), (ox 120 (.pick (.t 108) (.t 119) (.v (.bool false))))] [0, 0, 3, 7, 15, 15, 15, 111, 239, 15, 15, 1551, 3599, 8191, 16383, 32767]) (cd 120 .skip (.exit 6))) (.block 7 (.ops [(mv 121 12), (ox 122 (b1 .add 121 1)), (mv 12 122)]))))) (.seq (.block 8 (.loop (.seq (.seq (.draw [(mv 123 12), (mv 124 13), (ox 125 (b2 .leq 123 124)), (mv 126 125), (ot 127 (.mov (.t 4)) 126), (ot 128 (.mov (.t 0)) 126), (ot 129 (.mov (.t 13)) 126), (ot 130 (.iaddr none 1 (.t 128) (.t 129)) 126), (ot 131 (ld 130) 126), (ot 132 (.mov (.t 0)) 126), (ot 133 (.mov (.t 1)) 126), (ot 134 (.iaddr none 1 (.t 132) (.t 133)) 126), (ot 135 (ld 134) 126), (ot 136 (.call (.t 127) [(.t 131), (.t 135)]) 126), (ot 137 (b1 .lss 136 0) 126), (ot 138 (.un .not (.t 137)) 126), (ox 139 (.pick (.t 126) (.t 138) (.v (.bool false))))] [0, 0, 3, 7, 15, 15, 15, 111, 239, 15, 15, 1551, 3599, 8191, 16383, 32767, 65535]) (cd 139 .skip (.exit 8))) (.block 9 (.ops [(mv 140 13), (ox 141 (b1 .sub 140 1)), (mv 13 141)]))))) (.seq (sq [(mv 142 12), (mv 143 13), (ox 144 (b2 .gtr 142 143))] (cd 144 (.exit 4) .skip)) (.seq (.draw [(mv 145 0), (mv 146 12), (mv 147 0), (mv 148 13), (mv 149 0), (mv 150 13), (ox 151 (.iaddr none 1 (.t 149) (.t 150))), (ox 152 (ld 151)), (mv 153 0), (mv 154 12), (ox 155 (.iaddr none 1 (.t 153) (.t 154))), (ox 156 (ld 155)), (ox 157 (.iaddr none 1 (.t 145) (.t 146))), (on (.store none (.t 157) (.t 152))), (ox 158 (.iaddr none 1 (.t 147) (.t 148))), (on (.store none (.t 158) (.t 156)))] [0, 0, 0, 0, 0, 0, 48, 112, 0, 0, 768, 1792, 4083, 8179, 16383, 32767]) (sq [(mv 159 12), (ox 160 (b1 .add 159 1)), (mv 12 160)] (.ops [(mv 161 13), (ox 162 (b1 .sub 161 1)), (mv 13 162)]))))))))) (.seq (.draw [(mv 163 0), (mv 164 13), (mv 165 0), (mv 166 1), (mv 167 0), (mv 168 1), (ox 169 (.iaddr none 1 (.t 167) (.t 168))), (ox 170 (ld 169)), (mv 171 0), (mv 172 13), (ox 173 (.iaddr none 1 (.t 171) (.t 172))), (ox 174 (ld 173)), (ox 175 (.iaddr none 1 (.t 163) (.t 164))), (on (.store none (.t 175) (.t 170))), (ox 176 (.iaddr none 1 (.t 165) (.t 166))), (on (.store none (.t 176) (.t 174)))] [0, 0, 0, 0, 0, 0, 48, 112, 0, 0, 768, 1792, 4083, 8179, 16383, 32767]) (sq [(mv 177 13), (mv 10 177), (ox 11 (mb false))] .ret)))))))))))), 178, [(.tmp 10), (.tmp 11)]⟩
theorem c153_ok : compileF Tryz.prog [] 153 = some c153 := by kernel_rfl
def c179 : AFn := ⟨(sq [(mv 12 1), (mv 10 12)] (.block 0 (.loop (.block 1 (sq [(mv 13 10), (ox 14 (.bin .mul (iv 2) (.t 13))), (ox 15 (b1 .add 14 1)), (mv 11 15)] (.seq (sq [(mv 16 11), (mv 17 2), (ox 18 (b2 .geq 16 17))] (cd 18 (.exit 0) .skip)) (.seq (.seq (.draw [(mv 19 11), (ox 20 (b1 .add 19 1)), (mv 21 2), (ox 22 (b2 .lss 20 21)), (mv 23 22), (ot 24 (.mov (.t 4)) 23), (ot 25 (.mov (.t 0)) 23), (ot 26 (.mov (.t 3)) 23), (ot 27 (.mov (.t 11)) 23), (ot 28 (b2 .add 26 27) 23), (ot 29 (.iaddr none 1 (.t 25) (.t 28)) 23), (ot 30 (ld 29) 23), (ot 31 (.mov (.t 0)) 23), (ot 32 (.mov (.t 3)) 23), (ot 33 (.mov (.t 11)) 23), (ot 34 (b2 .add 32 33) 23), (ot 35 (b1 .add 34 1) 23), (ot 36 (.iaddr none 1 (.t 31) (.t 35)) 23), (ot 37 (ld 36) 23), (ot 38 (.call (.t 24) [(.t 30), (.t 37)]) 23), (ot 39 (b1 .lss 38 0) 23), (ox 40 (.pick (.t 23) (.t 39) (.v (.bool false))))] [0, 1, 0, 7, 15, 31, 31, 31, 31, 415, 991, 2015, 31, 31, 31, 24607, 57375, 127007, 258079, 524287, 1048575, 2097151]) (cd 40 (.ops [(mv 41 11), (ox 42 (b1 .add 41 1)), (mv 11 42)]) .skip)) (.seq (.seq (.draw [(mv 43 4), (mv 44 0), (mv 45 3), (mv 46 10), (ox 47 (b2 .add 45 46)), (ox 48 (.iaddr none 1 (.t 44) (.t 47))), (ox 49 (ld 48)), (mv 50 0), (mv 51 3), (mv 52 11), (ox 53 (b2 .add 51 52)), (ox 54 (.iaddr none 1 (.t 50) (.t 53))), (ox 55 (ld 54)), (ox 56 (.call (.t 43) [(.t 49), (.t 55)])), (ox 57 (b1 .lss 56 0)), (ox 58 (.un .not (.t 57)))] [0, 0, 0, 0, 12, 30, 62, 0, 0, 0, 768, 1920, 3968, 8191, 16383, 32767]) (cd 58 .ret .skip)) (.seq (.draw [(mv 59 0), (mv 60 3), (mv 61 10), (ox 62 (b2 .add 60 61)), (mv 63 0), (mv 64 3), (mv 65 11), (ox 66 (b2 .add 64 65)), (mv 67 0), (mv 68 3), (mv 69 11), (ox 70 (b2 .add 68 69)), (ox 71 (.iaddr none 1 (.t 67) (.t 70))), (ox 72 (ld 71)), (mv 73 0), (mv 74 3), (mv 75 10), (ox 76 (b2 .add 74 75)), (ox 77 (.iaddr none 1 (.t 73) (.t 76))), (ox 78 (ld 77)), (ox 79 (.iaddr none 1 (.t 59) (.t 62))), (on (.store none (.t 79) (.t 72))), (ox 80 (.iaddr none 1 (.t 63) (.t 66))), (on (.store none (.t 80) (.t 78)))] [0, 0, 0, 6, 0, 0, 0, 96, 0, 0, 0, 1536, 3840, 7936, 0, 0, 0, 98304, 245760, 507904, 1048335, 2096911, 4194303, 8388607]) (.ops [(mv 81 11), (mv 10 81)])))))))))), 82, []⟩
theorem c179_ok : compileF Tryz.prog [] 179 = some c179 := by kernel_rfl
def c180 : AFn := ⟨(sq [(ox 2 (.mov (.v (.int .u64 0))))] (sq [(mv 3 0), (ox 4 (.conv .u64 (.t 3))), (ox 5 (fc 109 [(.t 4)])), (ox 6 (.ext (.shift true) [(.v (.int .u64 1)), (.t 5)])), (mv 2 6)] .ret)), 7, [(.tmp 2)]⟩
theorem c180_ok : compileF Tryz.prog [] 180 = some c180 := by kernel_rfl
def c181 : AFn := ⟨(sq [(ox 2 (.mov (.v (.int .u64 0))))] (.seq (.draw [(mv 3 0), (ox 4 (.nilchk (.t 3))), (ox 5 (ld 4)), (mv 6 0), (ox 7 (.nilchk (.t 6))), (ox 8 (ld 7)), (ox 9 (.ext (.shift true) [(.t 8), (.v (.int .u64 13))])), (ox 10 (b2 .xor 5 9)), (ox 11 (.nilchk (.t 3))), (on (.store none (.t 11) (.t 10)))] [0, 1, 3, 0, 8, 24, 56, 127, 255, 511]) (.seq (.draw [(mv 12 0), (ox 13 (.nilchk (.t 12))), (ox 14 (ld 13)), (mv 15 0), (ox 16 (.nilchk (.t 15))), (ox 17 (ld 16)), (ox 18 (.ext (.shift false) [(.t 17), (.v (.int .u64 7))])), (ox 19 (b2 .xor 14 18)), (ox 20 (.nilchk (.t 12))), (on (.store none (.t 20) (.t 19)))] [0, 1, 3, 0, 8, 24, 56, 127, 255, 511]) (.seq (.draw [(mv 21 0), (ox 22 (.nilchk (.t 21))), (ox 23 (ld 22)), (mv 24 0), (ox 25 (.nilchk (.t 24))), (ox 26 (ld 25)), (ox 27 (.ext (.shift true) [(.t 26), (.v (.int .u64 17))])), (ox 28 (b2 .xor 23 27)), (ox 29 (.nilchk (.t 21))), (on (.store none (.t 29) (.t 28)))] [0, 1, 3, 0, 8, 24, 56, 127, 255, 511]) (sq [(mv 30 0), (ox 31 (.nilchk (.t 30))), (ox 32 (ld 31)), (mv 2 32)] .ret))))), 33, [(.tmp 2)]⟩
theorem c181_ok : compileF Tryz.prog [] 181 = some c181 := by kernel_rfl
def c182 : AFn := ⟨(sq [(ox 8 (.mov (iv 0)))] (sq [(mv 9 0), (mv 10 1), (ox 11 (b1 .sub 10 1)), (mv 12 1), (mv 13 1), (ox 14 (b1 .add 13 1)), (mv 15 2), (mv 16 3), (ox 17 (fc 183 [(.t 9), (.t 11), (.t 12), (.t 14), (.t 15), (.t 16)])), (mv 8 17)] .ret)), 18, [(.tmp 8)]⟩
theorem c182_ok : compileF Tryz.prog [] 182 = some c182 := by kernel_rfl
def c183 : AFn := ⟨(sq [(ox 12 (.mov (iv 0)))] (sq [(mv 14 0), (mv 15 1), (mv 16 2), (mv 17 4), (mv 18 5), (ox 19 (fc 199 [(.t 14), (.t 15), (.t 16), (.t 17), (.t 18)])), (mv 13 19), (ox 20 (xt 13 0)), (ox 21 (xt 13 1)), (mv 1 20), (mv 2 21)] (sq [(mv 23 0), (mv 24 2), (mv 25 3), (mv 26 4), (mv 27 5), (ox 28 (fc 199 [(.t 23), (.t 24), (.t 25), (.t 26), (.t 27)])), (mv 22 28), (ox 29 (xt 22 0)), (ox 30 (xt 22 1)), (mv 2 29), (mv 3 30)] (sq [(mv 32 0), (mv 33 1), (mv 34 2), (mv 35 4), (mv 36 5), (ox 37 (fc 199 [(.t 32), (.t 33), (.t 34), (.t 35), (.t 36)])), (mv 31 37), (ox 38 (xt 31 0)), (ox 39 (xt 31 1)), (mv 1 38), (mv 2 39)] (sq [(mv 40 2), (mv 12 40)] .ret))))), 41, [(.tmp 12)]⟩
theorem c183_ok : compileF Tryz.prog [] 183 = some c183 := by kernel_rfl
def c199 : AFn := ⟨(sq [(ox 10 (.mov (iv 0))), (ox 11 (.mov (iv 0)))] (.seq (.seq (.draw [(mv 12 4), (mv 13 0), (mv 14 2), (ox 15 (.iaddr none 1 (.t 13) (.t 14))), (ox 16 (ld 15)), (mv 17 0), (mv 18 1), (ox 19 (.iaddr none 1 (.t 17) (.t 18))), (ox 20 (ld 19)), (ox 21 (.call (.t 12) [(.t 16), (.t 20)])), (ox 22 (b1 .lss 21 0))] [0, 0, 0, 6, 14, 0, 0, 96, 224, 511, 1023]) (cd 22 (sq [(mv 23 3), (ox 24 (.nilchk (.t 23))), (ox 25 (ld 24)), (ox 26 (b1 .add 25 1)), (ox 27 (.nilchk (.t 23))), (on (.store none (.t 27) (.t 26)))] (sq [(mv 28 2), (mv 29 1), (mv 10 28), (mv 11 29)] .ret)) .skip)) (sq [(mv 30 1), (mv 31 2), (mv 10 30), (mv 11 31)] .ret))), 32, [(.tmp 10), (.tmp 11)]⟩
theorem c199_ok : compileF Tryz.prog [] 199 = some c199 := by kernel_rfl
def c108 : AFn := ⟨(sq [(ox 10 (mb true))] (sq [(ox 11 (mb true))] (.block 0 (.loop (.block 1 (sq [(mv 21 2), (mv 22 1), (ox 23 (b2 .sub 21 22)), (mv 12 23)] (.seq (sq [(mv 24 12), (ox 25 (b1 .leq 24 12))] (cd 25 (sq [(mv 26 0), (mv 27 1), (mv 28 2), (mv 29 4), (ox 30 (fc 146 [(.t 26), (.t 27), (.t 28), (.t 29)]))] .ret) .skip)) (.seq (sq [(mv 31 3), (ox 32 (b1 .eql 31 0))] (cd 32 (sq [(mv 33 0), (mv 34 1), (mv 35 2), (mv 36 4), (ox 37 (fc 147 [(.t 33), (.t 34), (.t 35), (.t 36)]))] .ret) .skip)) (.seq (sq [(mv 38 10), (ox 39 (.un .not (.t 38)))] (cd 39 (sq [(mv 40 0), (mv 41 1), (mv 42 2), (mv 43 4), (ox 44 (fc 148 [(.t 40), (.t 41), (.t 42), (.t 43)]))] (.ops [(mv 45 3), (ox 46 (b1 .sub 45 1)), (mv 3 46)])) .skip)) (sq [(mv 48 0), (mv 49 1), (mv 50 2), (mv 51 4), (ox 52 (fc 149 [(.t 48), (.t 49), (.t 50), (.t 51)])), (mv 47 52), (ox 53 (xt 47 0)), (ox 54 (xt 47 1)), (mv 13 53), (mv 14 54)] (.seq (sq [(mv 55 14), (ox 56 (b1 .eql 55 2))] (cd 56 (sq [(mv 57 0), (mv 58 1), (mv 59 2), (mv 60 4), (ox 61 (fc 150 [(.t 57), (.t 58), (.t 59), (.t 60)]))] (sq [(mv 62 2), (ox 63 (b1 .sub 62 1)), (mv 64 13), (mv 65 1), (ox 66 (b2 .sub 64 65)), (ox 67 (b2 .sub 63 66)), (mv 13 67)] (.ops [(ox 14 (.mov (iv 1)))]))) .skip)) (.seq (sq [(mv 68 10), (mv 69 68), (ot 70 (.mov (.t 11)) 69), (ox 71 (.pick (.t 69) (.t 70) (.v (.bool false)))), (mv 72 71), (ot 73 (.mov (.t 14)) 72), (ot 74 (b1 .eql 73 1) 72), (ox 75 (.pick (.t 72) (.t 74) (.v (.bool false))))] (cd 75 (sq [(mv 76 0), (mv 77 1), (mv 78 2), (mv 79 4), (ox 80 (fc 151 [(.t 76), (.t 77), (.t 78), (.t 79)]))] (cd 80 .ret .skip)) .skip)) (.seq (.seq (.draw [(mv 81 1), (ox 82 (b1 .gtr 81 0)), (mv 83 82), (ot 84 (.mov (.t 4)) 83), (ot 85 (.mov (.t 0)) 83), (ot 86 (.mov (.t 1)) 83), (ot 87 (b1 .sub 86 1) 83), (ot 88 (.iaddr none 1 (.t 85) (.t 87)) 83), (ot 89 (ld 88) 83), (ot 90 (.mov (.t 0)) 83), (ot 91 (.mov (.t 13)) 83), (ot 92 (.iaddr none 1 (.t 90) (.t 91)) 83), (ot 93 (ld 92) 83), (ot 94 (.call (.t 84) [(.t 89), (.t 93)]) 83), (ot 95 (b1 .lss 94 0) 83), (ot 96 (.un .not (.t 95)) 83), (ox 97 (.pick (.t 83) (.t 96) (.v (.bool false))))] [0, 1, 3, 7, 7, 7, 39, 119, 247, 7, 7, 1543, 3591, 8191, 16383, 32767, 65535]) (cd 97 (sq [(mv 98 0), (mv 99 1), (mv 100 2), (mv 101 13), (mv 102 4), (ox 103 (fc 152 [(.t 98), (.t 99), (.t 100), (.t 101), (.t 102)])), (mv 15 103)] (sq [(mv 104 15), (mv 1 104)] (.exit 1))) .skip)) (sq [(mv 106 0), (mv 107 1), (mv 108 2), (mv 109 13), (mv 110 4), (ox 111 (fc 153 [(.t 106), (.t 107), (.t 108), (.t 109), (.t 110)])), (mv 105 111), (ox 112 (xt 105 0)), (ox 113 (xt 105 1)), (mv 16 112), (mv 17 113)] (sq [(mv 114 17), (mv 11 114)] (sq [(mv 115 16), (mv 116 1), (ox 117 (b2 .sub 115 116)), (mv 118 2), (mv 119 16), (ox 120 (b2 .sub 118 119)), (mv 18 117), (mv 19 120)] (sq [(mv 121 12), (ox 122 (b1 .quo 121 8)), (mv 20 122)] (sq [(mv 123 18), (mv 124 19), (ox 125 (b2 .lss 123 124))] (cd 125 (sq [(mv 126 18), (mv 127 20), (ox 128 (b2 .geq 126 127)), (mv 10 128)] (sq [(mv 129 0), (mv 130 1), (mv 131 16), (mv 132 3), (mv 133 4), (ox 134 (fc 108 [(.t 129), (.t 130), (.t 131), (.t 132), (.t 133)]))] (.ops [(mv 135 16), (ox 136 (b1 .add 135 1)), (mv 1 136)]))) (sq [(mv 137 19), (mv 138 20), (ox 139 (b2 .geq 137 138)), (mv 10 139)] (sq [(mv 140 0), (mv 141 16), (ox 142 (b1 .add 141 1)), (mv 143 2), (mv 144 3), (mv 145 4), (ox 146 (fc 108 [(.t 140), (.t 142), (.t 143), (.t 144), (.t 145)]))] (.ops [(mv 147 16), (mv 2 147)])))))))))))))))))))))), 148, []⟩
theorem c108_ok : compileF Tryz.prog [] 108 = some c108 := by kernel_rfl
end Go.Ab
namespace Go.Ab
open Go Go.Proofs Go.Sort
theorem w64u {n : Int} (h0 : 0 ≤ n) (h1 : n < 18446744073709551616) : IntKind.u64.wrap n = n := by rw [IntKind.wrap_u64]; omega
theorem sRow_ren (is : List Nat) (s : Txt) : renL is (sRow s) = sRow s := by simp [sRow, renL, ren]
def rows (d : Array Txt) : List (List AV) := d.toList.map sRow
def okP (d : Array Txt) : Prop := ∀ x ∈ d.toList, placeB x = true
theorem okP_at {d : Array Txt} (h : okP d) {j : Nat} (hj : j < d.size) : placeB d[j]! = true := by
  rw [getElem!_pos d j hj]; exact h _ (by simp)
theorem rows_at {d : Array Txt} {j : Nat} (hj : j < d.size) : (rows d)[j]? = some (sRow d[j]!) := by
  rw [getElem!_pos d j hj]; simp [rows, hj]
theorem rows_len (d : Array Txt) : (rows d).length = d.size := by simp [rows]
theorem swp_size (d : Array Txt) (i j : Nat) : (swp d i j).size = d.size := by simp [swp]
theorem rows_swp (d : Array Txt) (i j : Nat) : ((rows d).set i (sRow d[j]!)).set j (sRow d[i]!) = rows (swp d i j) := by simp [rows, swp]
theorem okP_swp {d : Array Txt} (h : okP d) {i j : Nat} (hi : i < d.size) (hj : j < d.size) : okP (swp d i j) := by
  intro x hx
  simp only [swp, Array.toList_setIfInBounds] at hx
  rcases List.mem_or_eq_of_mem_set hx with hx | rfl
  · rcases List.mem_or_eq_of_mem_set hx with hx | rfl
    · exact h x hx
    · exact okP_at h hj
  · exact okP_at h hi
def rgO (d : Array Txt) : AObj := .reg 9 1 (rows d)
theorem rows_cl (k : Nat) (d : Array Txt) : closedLL k (rows d) = true := closedLL_map fun _x _ => rfl
theorem rows_ren (is : List Nat) (d : Array Txt) : renLL is (rows d) = rows d := by
  unfold rows
  induction d.toList with
  | nil => rfl
  | cons x r ih => rw [List.map_cons, renLL, ih, sRow_ren]
theorem Len_c (n : Nat) (h : n ≤ 1000000) : ACalls Tryz.prog 109 [.int .u64 n] [] (.int .i64 (Go.Lib.bitLen n : Nat)) [] := by
  refine .of_below (by kernel_rfl) fun c vs hv hg => ?_
  simp only [Vals, Val] at hv
  obtain ⟨v, vs', rfl, rfl, rfl⟩ := hv
  refine (Tryz.bits_Len n c.w (by omega) (by omega)).mono fun e w' h => ?_
  obtain ⟨rfl, rfl⟩ := h
  exact ⟨_, rfl, Go.RowKit.Below.refl _ _, fun c' => by simp only [Val]; rw [Int.toNat_natCast]⟩
end Go.Ab
