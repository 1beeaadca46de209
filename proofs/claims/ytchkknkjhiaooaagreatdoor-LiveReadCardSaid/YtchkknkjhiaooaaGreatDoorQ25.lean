/- A part of the proof: Ga Gy Gz Ha Hb Hc. -/
import Derived.Test.YtchkknkjhiaooaaGreatDoorQ24
set_option linter.unusedVariables false
set_option linter.unusedSimpArgs false
set_option linter.constructorNameAsVariable false
namespace Go.Proofs.YtchkknkjhiaooaaGreatDoor.Vm
open Go Go.RowKit
variable {N : Nat} {g : Glob}
theorem SetsRow.grown {S S' : St} {v : AV} {l : List BSet} (h : SetsRow S v l) (hn : S.next ≤ S'.next) (hl : ∀ s ∈ l, s.ws ≠ [])
    (hk : ∀ q, q < S.next → ((∃ c, v = .sl 2 q 0 c) ∨ ∃ ws, ws ≠ [] ∧ S.obj q = some (.row 1 (els u64c ws))) → S'.obj q = S.obj q) : SetsRow S' v l := by
  rcases h with h | ⟨o, es, rfl, ho, hob, hlen, hne, hes⟩
  · exact .inl h
  · refine .inr ⟨o, es, rfl, by omega, by rw [hk o ho (.inl ⟨_, rfl⟩)]; exact hob, hlen, hne, fun i s hs => ?_⟩
    obtain ⟨w, hw, hr⟩ := hes i s hs
    refine ⟨w, hw, ?_⟩
    rcases hr with hr | ⟨q, h1, rfl, h2⟩
    · exact .inl hr
    · exact .inr ⟨q, by omega, rfl, by rw [hk q h1 (.inr ⟨_, hl s (List.mem_of_getElem? hs), h2⟩)]; exact h2⟩
theorem SetsRow.up {S S' : St} {v : AV} {l : List BSet} (h : SetsRow S v l) (hu : Up S S') (hl : ∀ s ∈ l, s.ws ≠ []) : SetsRow S' v l := h.grown hu.1 hl fun q hq _ => hu.2 q hq
theorem SetsRow.at {S : St} {v : AV} {l : List BSet} (h : SetsRow S v l) {q c : Nat} (e : v = .sl 2 q 0 c) : q < S.next ∧ ∃ es, S.obj q = some (.row 2 es) := by
  rcases h with ⟨rfl, _⟩ | ⟨o, es, rfl, ho, hob, _⟩
  · cases e
  · cases e; exact ⟨ho, es, hob⟩
theorem SetsRow.pict {S : St} {v : AV} {l : List BSet} {n : Nat} (h : SetsRow S v l) (hok : ∀ s ∈ l, s.OK) : Vm.pict S [] (n + 3) v = some (encF setc 2 l) := by
  rcases h with ⟨rfl, rfl⟩ | ⟨o, es, rfl, ho, hob, hlen, hne, hes⟩
  · rfl
  · have hel : elems S (.sl 2 o 0 l.length) = some es := by rw [elems_sl hob (by omega), List.drop_zero, List.take_of_length_le (by omega)]
    rw [pict_sl, hel]
    have : mapOpt (mapOpt (Vm.pict S [] (n + 2))) es = some (els setc l) := by
      have key : ∀ (es : List (List AV)) (l : List BSet), es.length = l.length → (∀ s ∈ l, s.OK) → (∀ (i : Nat) (s : BSet), l[i]? = some s → ∃ w, es[i]? = some [.int .i64 s.n, w] ∧ IsRow S w s) → mapOpt (mapOpt (Vm.pict S [] (n + 2))) es = some (els setc l) := by
        intro es
        induction es with
        | nil => intro l h _ _; cases l with
          | nil => rfl
          | cons s l => simp at h
        | cons e es ih =>
          intro l h hok hes
          cases l with
          | nil => simp at h
          | cons s l =>
            obtain ⟨w, hw, hr⟩ := hes 0 s rfl
            simp at hw
            have h1 := ih l (by simpa using h) (fun t ht => hok t (by simp [ht])) fun i t ht => by simpa using hes (i + 1) t (by simpa using ht)
            have h2 := hr.pict (n := n) (hok s (by simp))
            rw [hw]
            simp [mapOpt, h1, h2, els]
      exact key es l hlen hok hes
    simp only [Option.bind_some, this]
    simp [encF, hne]
def outc (b : Blk) : List AV := [b.outV]
theorem Has.up {α : Type} {e : α → List AV} {sz : Nat} {S S' : St} {v : AV} {l : List α} (h : Has e sz S v l) (hb : Bel S v) (hu : Up S S') : Has e sz S' v l := h.keep fun q ⟨c, e⟩ => hu.2 q (hb _ _ _ e)
theorem gen_ws (b : Blk) : b.gen.ws ≠ [] := by
  intro h
  have := b.gen_ok.1.len
  rw [h, b.gen_ok.2] at this
  simp [nw] at this
theorem kill_ws (b : Blk) : b.kill.ws ≠ [] := by
  intro h
  have := b.kill_ok.1.len
  rw [h, b.kill_ok.2] at this
  simp [nw] at this
structure Flo (S : St) (v1 v2 v3 : AV) (l : List Blk) : Prop where
  a : Has outc 1 S v1 l
  b : SetsRow S v2 (l.map Blk.gen)
  c : SetsRow S v3 (l.map Blk.kill)
  ba : Bel S v1
  la : ∀ sz q c, v1 = .sl sz q 0 c → 4 ≤ q
  lb : ∀ sz q c, v2 = .sl sz q 0 c → 4 ≤ q
  lc : ∀ sz q c, v3 = .sl sz q 0 c → 4 ≤ q
  sep : ∀ q c d, v2 = .sl 2 q 0 c → v3 = .sl 2 q 0 d → False
theorem gens_ws (l : List Blk) : ∀ s ∈ l.map Blk.gen, s.ws ≠ [] := by
  intro s hs
  rw [List.mem_map] at hs
  obtain ⟨b, _, rfl⟩ := hs
  exact gen_ws b
theorem kills_ws (l : List Blk) : ∀ s ∈ l.map Blk.kill, s.ws ≠ [] := by
  intro s hs
  rw [List.mem_map] at hs
  obtain ⟨b, _, rfl⟩ := hs
  exact kill_ws b
theorem Flo.up {S S' : St} {v1 v2 v3 : AV} {l : List Blk} (h : Flo S v1 v2 v3 l) (hu : Up S S') : Flo S' v1 v2 v3 l :=
  ⟨h.a.up h.ba hu, h.b.up hu (gens_ws l), h.c.up hu (kills_ws l), h.ba.mono hu.1, h.la, h.lb, h.lc, h.sep⟩
end Go.Proofs.YtchkknkjhiaooaaGreatDoor.Vm
namespace Go.Proofs.YtchkknkjhiaooaaGreatDoor.Vm
open Go Go.RowKit
variable {N : Nat} {g : Glob}
theorem solver_all (n : Nat) (hn : n < 2 ^ 30) : Ret P g false 125 [.int .i64 (n : Int)] (.fsl 1 (els natc (List.range n))) := by
  refine Ret.in c125 (by simp) ?_
  have hroom : n ≤ room := by simp [room]; omega
  simp [k125, hroom]
  refine W.whileI (fun (a : Nat) F S => a ≤ n ∧ F 3 = .sl 1 0 0 n ∧ F 7 = .sl 1 0 0 n ∧ F 8 = .int .i64 n ∧ F 9 = .int .i64 a ∧ ∃ o : List Nat, o.length = n ∧ o.take a = List.range a ∧ S.obj 0 = some (.row 1 (els natc o))) (fun a => n - a) ?_ 0 _ _ ?_
  · rintro a F S ⟨ha, h3, h7, h8, h9, o, hol, hot, hob⟩
    by_cases hlt : a < n
    · have e4 := wrapS a (by omega)
      obtain ⟨u, hu⟩ : ∃ u, o[a]? = some u := ⟨_, List.getElem?_eq_getElem (by omega)⟩
      simp [h8, h9, hlt]
      simp [h3, h7, h8, h9, ix_sl hlt, hob, hu, natc, e4]
      refine ⟨a + 1, by omega, by omega, by omega, o.set a a, by simp [hol], ?_, by rw [← els_set]; rfl⟩
      rw [set_take_succ (by omega), hot, List.range_succ]
    · have : a = n := by omega
      subst this
      have hoR : o = List.range a := by rw [← hot, List.take_of_length_le (by omega)]
      subst hoR
      simp [h8, h9, h3]
      refine ⟨2, ?_⟩
      have := ints_pict (m := 0) (o := 0) (l := (List.range a).map fun k : Nat => (k : Int)) (S := S) (by rw [hob, natc_eq])
      rw [natc_eq]
      simpa using this
  · simp
    exact ⟨List.replicate n 0, by simp, by simp [els, natc]⟩
theorem union_ret {a b : BSet} (ha : a.OK) (hb : b.OK) : Ret P g true 19 [encB a, encB b] (encB (a.or b)) := (bits_Union a b ha hb).setR rfl (BSet.or_ok ha hb).len
theorem minus_ret {a b : BSet} (ha : a.OK) (hb : b.OK) : Ret P g true 109 [encB a, encB b] (encB (a.minus b)) := (bits_Minus a b ha hb).setR rfl (BSet.minus_ok ha hb).len
theorem new_ret : Ret P g true 18 [.int .i64 6] (encB (BSet.new 6)) := (bits_New 6 (by omega)).setR (b := BSet.new 6) rfl (by simp [BSet.new])
theorem flow_gen (l : List Blk) : FSl (fun b : Blk => setc b.gen) 2 (encF (fun b : Blk => setc b.gen) 2 l) l := encF_sl
theorem flow_kill (l : List Blk) : FSl (fun b : Blk => setc b.kill) 2 (encF (fun b : Blk => setc b.kill) 2 l) l := encF_sl
theorem flow_out (l : List Blk) : FSl (fun b : Blk => [b.outV]) 1 (encF (fun b : Blk => [b.outV]) 1 l) l := encF_sl
theorem solver_eval {l : List Blk} {x : List BSet} {i : Nat} {b : Blk} (hb : l[i]? = some b) (hx : Good x) (hxl : x.length = l.length) (hin : ∀ j ∈ b.out, 0 ≤ j ∧ j < l.length) (hol : b.out.length < 2 ^ 20) :
    Own P g 187 [flowE l, .int .i64 (i : Int), .fsl 2 (els setc x)] (.agg [.int .i64 6, .sl 1 0 0 1]) (St.ofL [.row 1 (els u64c (b.eval x).ws)]) := by
  refine Own.in [3] c187 (by simp) (by simp) ?_
  have hxf : FSl setc 2 (.fsl 2 (els setc x)) x := FSl.mk
  have o1 := flow_out l
  have o2 := flow_gen l
  have o3 := flow_kill l
  have v1 : (encF (fun b : Blk => [b.outV]) 1 l).cells = [encF (fun b : Blk => [b.outV]) 1 l] := o1.cells
  simp [k187, flowE]
  refine (new_ret).use (n := 9) ?_ rfl ?_ <;> simp
  simp [o1.idx hb, b.outS.len]
  let sk : Nat → BSet := fun k => (b.out.take k).foldl (fun s j => s.or (x.getD j.toNat (BSet.new 6))) (BSet.new 6)
  have hsk : ∀ k, (sk k).OK ∧ (sk k).n = 6 := fun k => by
    obtain ⟨h1, h2, _⟩ := bigOr_fold hx (b.out.take k) (BSet.new 6) (BSet.new_ok (by omega)) rfl
    exact ⟨h1, h2⟩
  refine W.whileI (fun (k : Nat) F S => k ≤ b.out.length ∧ F 1 = .int .i64 i ∧ F 2 = .fsl 2 (els setc x) ∧ F 3 = .ptr 0 0 0 ∧ F 6 = .ptr 1 0 0 ∧ F 7 = .ptr 2 0 0 ∧ F 17 = b.outV ∧ F 18 = .int .i64 b.out.length ∧ F 19 = .int .i64 k ∧ S.next = 3 ∧
    S.obj 0 = some (.row 4 [[.int .i64 6, encF (fun b : Blk => [b.outV]) 1 l, encF (fun b : Blk => setc b.gen) 2 l, encF (fun b : Blk => setc b.kill) 2 l]]) ∧ S.obj 1 = some (.row 2 [[.int .i64 0, .nilsl]]) ∧ S.obj 2 = some (.row 2 [setc (sk k)])) (fun k => b.out.length - k) ?_ 0 _ _ ?_
  · rintro k F S ⟨hk, h1, h2, h3, h6, h7, h17, h18, h19, hn, p0, p1, p2⟩
    by_cases hlt : k < b.out.length
    · obtain ⟨j, hj⟩ : ∃ j, b.out[k]? = some j := ⟨_, List.getElem?_eq_getElem hlt⟩
      obtain ⟨hj0, hjn⟩ := hin j (List.mem_of_getElem? hj)
      obtain ⟨jn, rfl⟩ : ∃ n : Nat, j = (n : Int) := ⟨j.toNat, by omega⟩
      obtain ⟨sj, hsj⟩ : ∃ s, x[jn]? = some s := ⟨_, List.getElem?_eq_getElem (by omega)⟩
      have hsjo := hx sj (List.mem_of_getElem? hsj)
      have e4 := wrapS k (by omega)
      have hst : sk (k + 1) = (sk k).or sj := by
        show (b.out.take (k + 1)).foldl _ _ = _
        rw [foldl_take_succ _ _ _ _ _ hj]
        simp [List.getD_eq_getElem?_getD, hsj, sk]
      simp [h18, h19, hlt]
      simp [h17, h19, b.outS.idx hj, intc]
      refine Dra.auto [] mix ?_ ?_
      · kernel_rfl
      simp [classes, h2, h7, p2, hxf.idx hsj]
      refine (union_ret (hsk k).1 hsjo.1).b (n := 9) ?_ rfl ?_ <;> simp [(hsk k).2, hsjo.2, p2]
      simp [h1, h2, h3, h6, h7, h17, h18, h19, e4, p2]
      refine ⟨k + 1, by omega, by omega, by omega, hn, p0, p1, ?_⟩
      rw [hst]
      simp [BSet.or_n, (hsk k).2, hsjo.2]
    · have : k = b.out.length := by omega
      subst this
      have hfin : sk b.out.length = bigOr x b.out := by
        show (b.out.take b.out.length).foldl _ _ = _
        rw [List.take_length]; rfl
      rw [hfin] at p2
      have hbo := bigOr_ok hx b.out
      simp [h18, h19]
      refine Dra.auto [] mix ?_ ?_
      · kernel_rfl
      have n1 : ¬ 1 = S.next := by omega
      have o2i := o2.idx hb
      have o3i := o3.idx hb
      simp only [setc] at o2i o3i
      simp [classes, h1, h3, h6, h7, p0, p1, p2, o2i, o3i]
      refine (minus_ret hbo.1 b.kill_ok.1).b (n := 9) ?_ rfl ?_ <;> simp [hbo.2, b.kill_ok.2]
      have hmo : ((bigOr x b.out).minus b.kill).OK := BSet.minus_ok hbo.1 b.kill_ok.1
      have hmn : ((bigOr x b.out).minus b.kill).n = 6 := by
        show max (bigOr x b.out).n b.kill.n = 6
        rw [hbo.2, b.kill_ok.2]; rfl
      have hnw : nw 6 = 1 := rfl
      refine (bits_Union b.gen ((bigOr x b.out).minus b.kill) b.gen_ok.1 hmo).b' (n := 9) ?_ ?_ ?_ <;> simp
      simp [b.gen_ok.2, hmn, hnw, hn, h6, p1]
      rw [show b.eval x = BSet.merge (fun x1 x2 => x1 ||| x2) b.gen ((bigOr x b.out).minus b.kill) from rfl]
      simp [RO, hn, AV.ren]
  · simp
    exact ⟨by simp [sk, BSet.new], rfl⟩
end Go.Proofs.YtchkknkjhiaooaaGreatDoor.Vm
namespace Go.Proofs.YtchkknkjhiaooaaGreatDoor.Vm
open Go Go.RowKit
variable {N : Nat} {g : Glob}
def XR (bad : Nat → Prop) (S : St) (o : Nat) (x : List BSet) : Prop := ∃ es, S.obj o = some (.row 2 es) ∧ es.length = x.length ∧ o < S.next ∧ ∀ (k : Nat) (s : BSet), x[k]? = some s → ∃ q, es[k]? = some [.int .i64 6, .sl 1 q 0 1] ∧ q < S.next ∧ S.obj q = some (.row 1 (els u64c s.ws)) ∧ ¬ bad q
theorem XR.step {bad bad' : Nat → Prop} {S S' : St} {o : Nat} {x : List BSet} (h : XR bad S o x) (hn : S.next ≤ S'.next) (ho : S'.obj o = S.obj o) (hq : ∀ q, q < S.next → q ≠ o → ¬ bad q → S'.obj q = S.obj q) (hb : ∀ q, q < S.next → bad' q → bad q) : XR bad' S' o x := by
  obtain ⟨es, h1, h2, h3, h4⟩ := h
  refine ⟨es, by rw [ho]; exact h1, h2, by omega, fun k s hs => ?_⟩
  obtain ⟨q, k1, k2, k3, k4⟩ := h4 k s hs
  have hqo : q ≠ o := fun e => by rw [e, h1] at k3; cases k3
  exact ⟨q, k1, by omega, by rw [hq q k2 hqo k4]; exact k3, fun h => k4 (hb q k2 h)⟩
theorem XR.put {bad : Nat → Prop} {S : St} {o : Nat} {x : List BSet} (h : XR bad S o x) {i q : Nat} {t : BSet} (hi : i < x.length) (h1 : q < S.next) (h2 : S.obj q = some (.row 1 (els u64c t.ws))) (h3 : ¬ bad q) :
    ∃ es, S.obj o = some (.row 2 es) ∧ i < es.length ∧ XR bad (S.set o (.row 2 (es.set i [.int .i64 6, .sl 1 q 0 1]))) o (x.set i t) := by
  obtain ⟨es, k1, k2, k3, k4⟩ := h
  have hqo : q ≠ o := fun e => by rw [e, k1] at h2; cases h2
  refine ⟨es, k1, by omega, es.set i [.int .i64 6, .sl 1 q 0 1], by simp, by simp [k2], by simpa using k3, fun k s hs => ?_⟩
  by_cases hk : k = i
  · subst hk
    rw [List.getElem?_set_self hi] at hs
    cases hs
    exact ⟨q, by rw [List.getElem?_set_self (by omega)], by simpa using h1, by simp [hqo, h2], h3⟩
  · rw [List.getElem?_set_ne (Ne.symm hk)] at hs
    obtain ⟨p, m1, m2, m3, m4⟩ := k4 k s hs
    have hpo : p ≠ o := fun e => by rw [e, k1] at m3; cases m3
    exact ⟨p, by rw [List.getElem?_set_ne (Ne.symm hk)]; exact m1, by simpa using m2, by simp [hpo, m3], m4⟩
theorem XR.pict {bad : Nat → Prop} {S : St} {o : Nat} {x : List BSet} {m : Nat} (h : XR bad S o x) (hx : Good x) : Vm.pict S [] (m + 3) (.sl 2 o 0 x.length) = some (.fsl 2 (els setc x)) := by
  obtain ⟨es, k1, k2, k3, k4⟩ := h
  refine pict_row k1 k2 (by simp) fun k e he => ?_
  have hlt := (List.getElem?_eq_some_iff.1 he).1
  obtain ⟨s, hs⟩ : ∃ s, x[k]? = some s := ⟨_, List.getElem?_eq_getElem (by omega)⟩
  obtain ⟨q, m1, m2, m3, m4⟩ := k4 k s hs
  rw [he] at m1; cases m1
  have hso := hx s (List.mem_of_getElem? hs)
  have hl : s.ws.length = 1 := by rw [hso.1.len, hso.2]; rfl
  have hp : Vm.pict S [] (m + 2) (.sl 1 q 0 1) = some (.fsl 1 (els u64c s.ws)) := by
    refine pict_row (es := els u64c s.ws) m3 (by simp [hl]) (by simp [hl]) fun k e he => ?_
    rw [he]
    simp only [els, List.getElem?_map] at he
    cases hz : s.ws[k]? with
    | none => rw [hz] at he; cases he
    | some x => rw [hz] at he; cases he; simp [u64c]
  simp only [mapOpt, hp, pict_int, els_get, hs]
  simp [hso.2]
theorem Wo.keep2 {n : Nat} {ord : List Nat} {S S' : St} {W A I H ho : Nat} {ov : AV} {h : List Nat} {o : Nat} {es : List (List AV)} (hw : Wo n ord S W A I H ho ov h) (hob : S.obj o = some (.row 2 es)) (hn : S.next ≤ S'.next) (hq : ∀ q, q < S.next → q ≠ o → S'.obj q = S.obj q) : Wo n ord S' W A I H ho ov h := by
  obtain ⟨obj, hp, ⟨ea, a1, a2, a3⟩, ⟨ei, b1, b2, b3⟩, ids, ⟨l1, l2, l3⟩, oo, pm, nd, hlt⟩ := hw
  have nW : W ≠ o := fun e => by rw [e, hob] at obj; cases obj
  have nA : A ≠ o := fun e => by rw [e, hob] at a1; cases a1
  have nI : I ≠ o := fun e => by rw [e, hob] at b1; cases b1
  have nH : H ≠ o := fun e => by have := hp.box; rw [e, hob] at this; cases this
  have nh : ho ≠ o := fun e => by have := hp.row; rw [e, hob] at this; cases this
  refine ⟨by rw [hq W l1 nW]; exact obj, ⟨by rw [hq H hp.lH nH]; exact hp.box, by rw [hq ho hp.lo nh]; exact hp.row, hp.ne, by have := hp.lH; omega, by have := hp.lo; omega⟩, ⟨ea, by rw [hq A l2 nA]; exact a1, a2, a3⟩, ⟨ei, by rw [hq I l3 nI]; exact b1, b2, b3⟩, ids, ⟨by omega, by omega, by omega⟩, ?_, pm, nd, hlt⟩
  rcases oo with h | ⟨q, rfl, o1, o2, o3⟩
  · exact .inl h
  · have nq : q ≠ o := fun e => by rw [e, hob] at o2; cases o2
    exact .inr ⟨q, rfl, by omega, by rw [hq q o1 nq]; exact o2, o3⟩
theorem outs_gr (l : List Blk) : GrV (encF (fun b : Blk => [b.outV]) 1 l) (l.map Blk.out) := by
  unfold encF
  split
  · rename_i h; exact .inl ⟨rfl, by simp [h]⟩
  · refine .inr ⟨l.map Blk.outV, by simp [els], by simp, fun k w m hw hm => ?_⟩
    rw [List.getElem?_map] at hw hm
    cases hb : l[k]? with
    | none => rw [hb] at hw; cases hw
    | some b => rw [hb] at hw hm; cases hw; cases hm; exact b.outS
def badW (I H ho q : Nat) : Prop := q = I ∨ q = H ∨ q = ho
end Go.Proofs.YtchkknkjhiaooaaGreatDoor.Vm
namespace Go.Proofs.YtchkknkjhiaooaaGreatDoor.Vm
open Go Go.RowKit
variable {N : Nat} {g : Glob}
structure RunI (l : List Blk) (L : List (List Int)) (o ib B : Nat) (x : List BSet) (h : List Nat) (t : Option Nat) (S : St) (W : Nat) : Prop where
  ex : ∃ ord A I H ho ov, Wo l.length ord S W A I H ho ov h ∧ XR (badW I H ho) S o x ∧ B ≤ I ∧ B ≤ H ∧ B ≤ ho ∧ Mid l x (fun j => todo ord h j ∨ t = some j) ∧ (t = none → ∀ j, ¬ todo ord h j)
  ti : ∀ i, t = some i → i < l.length
  inn : S.obj ib = some (.row 1 (els boolc (List.replicate l.length true)))
  lt : o < B ∧ ib < B ∧ B ≤ S.next
def PutI (n o ib B : Nat) (x : List BSet) (ord : List Nat) (W A I H : Nat) (ov : AV) (a : Nat) (S : St) : Prop := ∃ ho h, Wo n ord S W A I H ho ov h ∧ XR (badW I H ho) S o x ∧ B ≤ ho ∧ (∀ j, todo ord h j ↔ j < a) ∧ S.obj ib = some (.row 1 (els boolc (List.replicate n true))) ∧ B ≤ S.next
def PutR (n o ib B : Nat) (x : List BSet) (ord : List Nat) (W A I H : Nat) (ov : AV) (h0 : List Nat) (m : List Int) (a : Nat) (S : St) : Prop := ∃ ho h, Wo n ord S W A I H ho ov h ∧ XR (badW I H ho) S o x ∧ B ≤ ho ∧ (∀ j, todo ord h j ↔ todo ord h0 j ∨ (j : Int) ∈ m.take a) ∧ S.obj ib = some (.row 1 (els boolc (List.replicate n true))) ∧ B ≤ S.next
theorem putI_step {o ib B : Nat} {x : List BSet} {I H ho ho' : Nat} {S S' : St} (hx : XR (badW I H ho) S o x) (hf : WoF S S' I H ho) (hho : ho' = ho ∨ S.next ≤ ho') (hB : o < B ∧ ib < B ∧ B ≤ S.next) (hI : B ≤ I) (hH : B ≤ H) (hh : B ≤ ho) :
    XR (badW I H ho') S' o x ∧ S'.obj ib = S.obj ib ∧ B ≤ ho' := by
  refine ⟨hx.step hf.1 (hf.2 o (by omega) (by omega) (by omega) (by omega)) (fun q h1 h2 h3 => hf.2 q h1 (fun e => h3 (.inl e)) (fun e => h3 (.inr (.inl e))) fun e => h3 (.inr (.inr e))) (fun q h1 h2 => ?_), hf.2 ib (by omega) (by omega) (by omega) (by omega), by omega⟩
  rcases h2 with h2 | h2 | h2
  · exact .inl h2
  · exact .inr (.inl h2)
  · exact .inr (.inr (by omega))
theorem run_Take {l : List Blk} {L : List (List Int)} {o ib B : Nat} {x : List BSet} {ord : List Nat} {S : St} {Wp A I H ho : Nat} {ov : AV} {h : List Nat} {K : AV → St → Prop} (hl : l.length ≤ 12) (hw : Wo l.length ord S Wp A I H ho ov h) (hx : XR (badW I H ho) S o x) (hI : B ≤ I) (hH : B ≤ H) (hh : B ≤ ho) (hm : Mid l x (fun j => todo ord h j))
    (inn : S.obj ib = some (.row 1 (els boolc (List.replicate l.length true)))) (lt : o < B ∧ ib < B ∧ B ≤ S.next)
    (hk : ∀ S' h' t (c : Int), RunI l L o ib B x h' t S' Wp → (∀ i : Nat, t = some i → c = (i : Int)) → h'.length + (if t.isSome then 1 else 0) ≤ h.length → K (.tuple [.int .i64 c, .bool t.isSome]) S') : Cal P g 136 [.ptr Wp 0 0] S K := by
  refine work_Take hw (by omega) (fun h0 => ?_) fun S' h' i k1 k2 k3 k4 k5 k6 => ?_
  · subst h0
    have hnt : ∀ j, ¬ todo ord [] j := fun j ⟨k, h, _⟩ => by simp at h
    refine hk S [] none 0 ⟨⟨ord, A, I, H, ho, ov, hw, hx, hI, hH, hh, ?_, fun _ => hnt⟩, (fun i h => by cases h), inn, lt⟩ (fun i h => by cases h) (by simp)
    have e : (fun j => todo ord [] j ∨ (none : Option Nat) = some j) = fun j => todo ord [] j := by funext j; simp
    rw [e]; exact hm
  · obtain ⟨m1, m2, m3⟩ := putI_step (ib := ib) (B := B) hx k5 (.inl rfl) lt hI hH hh
    refine hk S' h' (some i) i ⟨⟨ord, A, I, H, ho, ov, k1, m1, hI, hH, hh, ?_, (fun h => by cases h)⟩, (fun j h => by cases h; exact k2), by rw [m2]; exact inn, ⟨lt.1, lt.2.1, by have := k5.1; omega⟩⟩ (fun j h => by cases h; rfl) (by simp; omega)
    have e : (fun j => todo ord h' j ∨ some i = some j) = fun j => todo ord h j := by
      funext j
      simp only [k4, Option.some.injEq, eq_iff_iff]
      constructor
      · rintro (h | rfl)
        · exact h.1
        · exact k3
      · intro h
        by_cases hj : i = j
        · exact .inr hj
        · exact .inl ⟨h, fun e => hj e.symm⟩
    rw [e]; exact hm
theorem flowE_solid (l : List Blk) : (flowE l).solid = true := by
  have o1 := (flow_out l).solid
  have o2 := (flow_gen l).solid
  have o3 := (flow_kill l).solid
  simp only [setc] at o2 o3
  simp [flowE, AV.solid, solids, o1, o2, o3]
theorem flowE_pict (l : List Blk) {S : St} {n : Nat} : pict S [] (n + 2) (flowE l) = some (flowE l) := by
  have o1 := (flow_out l).stab
  have o2 := (flow_gen l).stab
  have o3 := (flow_kill l).stab
  simp only [flowE, pict_aggs, mapOpt, pict_int, pict_stab o1, pict_stab o2, pict_stab o3, Option.map]
theorem solver_Run {l : List Blk} (hl : l.length ≤ 12) (hout : ∀ b ∈ l, b.out.length < 64 ∧ ∀ j ∈ b.out, 0 ≤ j ∧ j < l.length) {S : St} {o : Nat} {K : AV → St → Prop} (hx : XR (fun _ => False) S o (List.replicate l.length (BSet.new 6)))
    (hk : ∀ S', XR (fun _ => False) S' o (sol l) → S.next ≤ S'.next → K (.anyi .i64) S') :
    Cal P g 186 [encF (fun b : Blk => [b.outV]) 1 l, .fsl 1 (els natc (List.range l.length)), .sl 2 o 0 l.length, .func (.func 187) [flowE l] [], .func (.func 21) [] []] S K := by
  refine Cal.post ?_
  have hgr := outs_gr l
  have hos : o < S.next := by obtain ⟨es, _, _, h, _⟩ := hx; exact h
  have hroom : l.length ≤ room := by simp [room]; omega
  have hlf : FSl natc 1 (.fsl 1 (els natc (List.range l.length))) (List.range l.length) := FSl.mk
  refine c186.in (by simp) ?_
  simp [k186]
  refine (graph_Turn hgr (by simp; omega) (fun m hm => ?_)).use (n := 9) (by simp [pict_stab hgr.stab]) (by simp [solids, hgr.solid]) ?_
  · rw [List.mem_map] at hm
    obtain ⟨b, hb, rfl⟩ := hm
    exact (hout b hb).1
  rintro _ ⟨L, rfl, hT⟩
  have hLl : L.length = l.length := by rw [hT.len]; simp [cleanG]
  have hLs : ∀ m ∈ L, m.length ≤ 768 ∧ ∀ x ∈ m, 0 ≤ x ∧ x < l.length := by
    intro m hm
    have h1 := hT.short m hm
    have h2 := hT.sub m hm
    simp [cleanG] at h1 h2
    exact ⟨by omega, h2⟩
  have hTa : ∀ (i k : Nat) (c : Blk), l[k]? = some c → (i : Int) ∈ c.out → ∃ m, L[i]? = some m ∧ (k : Int) ∈ m := by
    intro i k c hc hi
    have h1 := (hout c (List.mem_of_getElem? hc)).2 _ hi
    refine hT.all k i (cleanL (l.map Blk.out).length c.out) ?_ ?_
    · simp [cleanG, hc]
    · rw [cleanL_mem]
      exact ⟨hi, by omega, by simp; omega⟩
  clear hT
  simp [hgr.len, hroom]
  have e1 : ∀ n : Nat, List.replicate n [AV.bool false] = els boolc (List.replicate n false) := fun n => els_replicate (e := boolc)
  refine W.whileI (fun (a : Nat) F S' => a ≤ l.length ∧ F 0 = encF (fun b : Blk => [b.outV]) 1 l ∧ F 2 = .sl 2 o 0 l.length ∧ F 3 = .func (.func 187) [flowE l] [] ∧ F 4 = .func (.func 21) [] [] ∧ F 11 = .fsl 1 (els (fun m => [encF intc 1 m]) L) ∧ F 12 = .sl 1 S.next 0 l.length ∧
    F 29 = .fsl 1 (els natc (List.range l.length)) ∧ F 30 = .int .i64 l.length ∧ F 31 = .int .i64 a ∧ S'.next = S.next + 1 ∧ Up S S' ∧ ∃ m : List Bool, m.length = l.length ∧ S'.obj S.next = some (.row 1 (els boolc m)) ∧ m.take a = List.replicate a true) (fun a => l.length - a) ?_ 0 _ _ ?_
  · rintro a F S' ⟨ha, h0, h2, h3, h4, h11, h12, h29, h30, h31, hn, hup, m, hm, hob, hmt⟩
    by_cases hlt : a < l.length
    · have e4 := wrapS a (by omega)
      have hr : (List.range l.length)[a]? = some a := by rw [List.getElem?_range hlt]
      obtain ⟨u, hu⟩ : ∃ u, m[a]? = some u := ⟨_, List.getElem?_eq_getElem (by omega)⟩
      simp [h30, h31, hlt]
      simp [h29, h31, hlf.idx hr, natc, h0, hgr.len, hlt]
      simp [h12, ix_sl hlt, hob, hu, boolc, h0, h2, h3, h4, h11, h29, h30, h31, e4]
      refine ⟨a + 1, by omega, by omega, by omega, hn, ⟨by simpa using hup.1, fun q hq => by simp [show ¬ q = S.next by omega]; exact hup.2 q hq⟩, m.set a true, by simp [hm], by rw [← els_set]; rfl, ?_⟩
      rw [set_take_succ (by omega), hmt, List.replicate_succ']
    · have : a = l.length := by omega
      subst this
      have hmR : m = List.replicate l.length true := by rw [← hmt, List.take_of_length_le (by omega)]
      subst hmR
      simp [h30, h31, h11]
      refine (rank_Schedule (encR_gr L) (by omega) (fun m hm => by have := (hLs m hm).1; omega) 0).use (n := 9) (by simp) (by simp [solids, AV.solid]) ?_
      rintro _ ⟨ord, rfl, hord⟩
      rw [hLl] at hord
      simp
      refine work_New rfl hord (by omega) fun S2 Wp A I H ho ov hw hup2 hids => ?_
      have hob2 : S2.obj S.next = some (.row 1 (els boolc (List.replicate l.length true))) := by rw [hup2.2 _ (by omega)]; exact hob
      have hn2 := hup2.1
      have hx2 : XR (badW I H ho) S2 o (List.replicate l.length (BSet.new 6)) := by
        refine hx.step (by omega) ?_ (fun q h1 h2 _ => ?_) (fun q h1 h2 => ?_)
        · rw [hup2.2 o (by omega), hup.2 o hos]
        · rw [hup2.2 q (by omega), hup.2 q h1]
        · rcases h2 with rfl | rfl | rfl <;> omega
      have hBh : S.next + 1 ≤ Wp ∧ S.next + 1 ≤ A ∧ S.next + 1 ≤ I ∧ S.next + 1 ≤ H ∧ S.next + 1 ≤ ho := by rw [hn] at hids; exact hids
      have hntd : ∀ j, ¬ todo ord [] j := fun j ⟨k, h, _⟩ => by simp at h
      have hbf : FSl boolc 1 (.fsl 1 (els boolc (List.replicate l.length true))) (List.replicate l.length true) := FSl.mk
      simp [h12]
      refine W.whileI (fun (a : Nat) F S' => a ≤ l.length ∧ F 2 = .sl 2 o 0 l.length ∧ F 3 = .func (.func 187) [flowE l] [] ∧ F 4 = .func (.func 21) [] [] ∧ F 11 = .fsl 1 (els (fun m => [encF intc 1 m]) L) ∧ F 12 = .sl 1 S.next 0 l.length ∧ F 15 = .ptr Wp 0 0 ∧
        F 50 = .sl 1 S.next 0 l.length ∧ F 51 = .int .i64 l.length ∧ F 52 = .int .i64 a ∧ PutI l.length o S.next (S.next + 1) (List.replicate l.length (BSet.new 6)) ord Wp A I H ov a S') (fun a => l.length - a) ?_ 0 _ _ ?_
      · rintro a F S3 ⟨ha, h2, h3, h4, h11, h12, h15, h50, h51, h52, ho3, h', hw3, hx3, hb3, ht3, hi3, hn3⟩
        by_cases hlt : a < l.length
        · have e4 := wrapS a (by omega)
          have hr : (List.replicate l.length true)[a]? = some true := by simp [hlt]
          simp [h51, h52, hlt]
          simp [h50, h52, ix_sl hlt, hi3, hr, boolc, h15]
          refine work_Put hw3 hlt (by omega) fun S4 ho4 h4' b k1 k2 k3 k4 k5 => ?_
          obtain ⟨m1, m2, m3⟩ := putI_step (ib := S.next) (B := S.next + 1) hx3 k3 k4 ⟨by omega, by omega, hn3⟩ hBh.2.2.1 hBh.2.2.2.1 hb3
          simp [h2, h3, h4, h11, h12, h15, h50, h51, h52, e4]
          refine ⟨a + 1, by omega, by omega, by omega, ho4, h4', k1, m1, m3, fun j => ?_, by rw [m2]; exact hi3, by have := k3.1; omega⟩
          rw [k2, ht3]; omega
        · have : a = l.length := by omega
          subst this
          simp [h51, h52, hlt, h15]
          have hmid : Mid l (List.replicate l.length (BSet.new 6)) (fun j => todo ord h' j) := by
            have := Mid.start l
            have e : (fun i => i < l.length) = fun j => todo ord h' j := by funext j; exact propext (ht3 j).symm
            rwa [e] at this
          refine run_Take (L := L) (B := S.next + 1) hl hw3 hx3 hBh.2.2.1 hBh.2.2.2.1 hb3 hmid hi3 ⟨by omega, by omega, hn3⟩ fun S4 h4' t c hR hc hlen => ?_
          simp
          refine W.whileI (fun (z : List BSet × List Nat × Option Nat) F S' => F 2 = .sl 2 o 0 l.length ∧ F 3 = .func (.func 187) [flowE l] [] ∧ F 4 = .func (.func 21) [] [] ∧ F 11 = .fsl 1 (els (fun m => [encF intc 1 m]) L) ∧ F 12 = .sl 1 S.next 0 l.length ∧ F 15 = .ptr Wp 0 0 ∧
            (∃ c, F 18 = .int .i64 c) ∧ (∃ c : Int, F 19 = .int .i64 c ∧ ∀ i : Nat, z.2.2 = some i → c = (i : Int)) ∧ F 20 = .bool z.2.2.isSome ∧ RunI l L o S.next (S.next + 1) z.1 z.2.1 z.2.2 S' Wp) (fun z => gap z.1 * 100 + z.2.1.length + (if z.2.2.isSome then 1 else 0)) ?_ (List.replicate l.length (BSet.new 6), h4', t) _ _ ?_
          · rintro ⟨x, h, t⟩ F S4 ⟨h2, h3, h4, h11, h12, h15, ⟨c, h18⟩, ⟨i', h19, hti⟩, h20, hR⟩
            simp only at hti h20 hR
            obtain ⟨⟨ord, A, I, H, ho, ov, hw, hx, hI, hH, hh, hm, htn⟩, hil, inn, hlt⟩ := hR
            cases t with
            | none =>
              simp [h20]
              have e : x = sol l := hm.done fun j hj => by rcases hj with hj | hj; exact htn rfl j hj; cases hj
              subst e
              refine .inr ⟨.anyi .i64, .inl ⟨_, _, h18, rfl⟩, S4, Wk.refl S4, hk S4 (hx.step (Nat.le_refl _) rfl (fun _ _ _ _ => rfl) fun _ _ h => h.elim) (by omega)⟩
            | some i =>
              have hin := hil i rfl
              have := hti i rfl
              subst this
              obtain ⟨b, hb⟩ : ∃ b, l[i]? = some b := ⟨_, List.getElem?_eq_getElem hin⟩
              obtain ⟨s, hs⟩ : ∃ s, x[i]? = some s := ⟨_, List.getElem?_eq_getElem (by have := hm.len; omega)⟩
              have hbo := hout b (List.mem_of_getElem? hb)
              have hxl := hm.len
              obtain ⟨es, k1, k2, k3, k4⟩ := id hx
              obtain ⟨q, m1, m2, m3, m4⟩ := k4 i s hs
              simp [h20, h18, h2, h19, ix_sl hin, k1, m1, h3]
              generalize hS5 : (S4.new (.row 2 [[.int .i64 0, .nilsl]])).set S4.next (.row 2 [[.int .i64 6, .sl 1 q 0 1]]) = S5
              have hn5 : S5.next = S4.next + 1 := by rw [← hS5]; simp
              have hq5 : ∀ p, p < S4.next → S5.obj p = S4.obj p := fun p hp => by rw [← hS5]; simp [show ¬ p = S4.next by omega]
              have hx5 : XR (badW I H ho) S5 o x := hx.step (by omega) (hq5 o (by omega)) (fun p hp _ _ => hq5 p hp) fun p _ h => h
              have hw5 := hw.keep2 (S' := S5) k1 (by omega) fun p hp _ => hq5 p hp
              have hb5 : S5.obj S4.next = some (.row 2 [[.int .i64 6, .sl 1 q 0 1]]) := by rw [← hS5]; simp
              have hp5 := hx5.pict (m := 6) hm.good
              rw [hm.len] at hp5
              refine (solver_eval hb hm.good hm.len hbo.2 (by omega)).use' (n := 9) (by simp [mapOpt, hp5, flowE_pict l]) (by simp) ?_
              simp
              obtain ⟨es', j1, j2, hx7⟩ := (hx5.step (S' := S5.new (.row 1 (els u64c (b.eval x).ws))) (bad' := badW I H ho) (by simp) (by simp [show ¬ o = S5.next by omega]) (fun p hp _ _ => by simp [show ¬ p = S5.next by omega]) fun p _ h => h).put (i := i) (q := S5.next) (t := b.eval x) (by omega) (by simp) (by simp) (fun h => by have := hw5.lt; have := hw5.hp.lH; have := hw5.hp.lo; rcases h with h | h | h <;> omega)
              simp [show ¬ o = S5.next by omega, hq5 o (by omega), k1] at j1
              subst j1
              have m1' : es[i] = [.int .i64 6, .sl 1 q 0 1] := by rw [List.getElem?_eq_getElem j2] at m1; exact Option.some.inj m1
              simp [h2, ix_sl hin, hq5 o (by omega), k1, show ¬ o = S5.next by omega, j2, m1']
              have hso := hm.good s (List.mem_of_getElem? hs)
              have heo := b.eval_ok hm.good
              generalize hS7 : (S5.new (.row 1 (els u64c (b.eval x).ws))).set o (.row 2 (es.set i [.int .i64 6, .sl 1 S5.next 0 1])) = S7 at hx7 ⊢
              have hn7 : S7.next = S5.next + 1 := by rw [← hS7]; simp
              have ho7 : S7.obj o = some (.row 2 (es.set i [.int .i64 6, .sl 1 S5.next 0 1])) := by rw [← hS7]; simp
              have hr7 : S7.obj S5.next = some (.row 1 (els u64c (b.eval x).ws)) := by rw [← hS7]; simp [show ¬ S5.next = o by omega]
              have hu7 : ∀ p, p < S4.next → p ≠ o → S7.obj p = S4.obj p := fun p hp h => by rw [← hS7]; simp [h, show ¬ p = S5.next by omega, hq5 p hp]
              have hb7 : S7.obj S4.next = some (.row 2 [[.int .i64 6, .sl 1 q 0 1]]) := by rw [← hS7]; simp [show ¬ S4.next = o by omega, show ¬ S4.next = S5.next by omega, hb5]
              have hq7 : S7.obj q = some (.row 1 (els u64c s.ws)) := by rw [hu7 q (by omega) (fun e => by rw [e, k1] at m3; cases m3)]; exact m3
              have hw7 := hw.keep2 (S' := S7) k1 (by omega) fun p hp h => hu7 p hp h
              have hg7 : (es.set i [.int .i64 6, .sl 1 S5.next 0 1])[i]? = some [.int .i64 6, .sl 1 S5.next 0 1] := List.getElem?_set_self (by omega)
              clear hS7
              have hsl : s.ws.length = 1 := by rw [hso.1.len, hso.2]; rfl
              have hel : (b.eval x).ws.length = 1 := by rw [heo.1.len, heo.2]; rfl
              have p1 : ∀ n, pict S7 [] (n + 2) (.sl 1 q 0 1) = some (.fsl 1 (els u64c s.ws)) := fun n => IsRow.pict hso.1 (.inr ⟨q, by omega, by rw [hso.2]; rfl, hq7⟩)
              have p2 : ∀ n, pict S7 [] (n + 2) (.sl 1 S5.next 0 1) = some (.fsl 1 (els u64c (b.eval x).ws)) := fun n => IsRow.pict heo.1 (.inr ⟨S5.next, by omega, by rw [heo.2]; rfl, hr7⟩)
              refine Dra.auto [] mix ?_ ?_
              · kernel_rfl
              simp [classes, h4, h2, h19, hb7, ix_sl hin, ho7, hg7]
              refine (bits_Same s (b.eval x) hso.1 heo.1).b (n := 9) ?_ rfl ?_ <;> simp [hso.2, heo.2, mapOpt, p1, p2]
              have hlen2 := hw7.hl
              have hle := gap_set hs hso heo (fun v hv => hm.pre i v b s hb hs hv)
              by_cases hse : s = b.eval x
              · have hm2 : Mid l (x.set i (b.eval x)) (fun j => todo ord h j) := hm.step hb hs (fun k hk => by
                  by_cases hki : k = i
                  · exact .inl hki
                  · exact .inr fun hh => by rcases hh with hh | hh; exact hk hh; cases hh; exact hki rfl) (fun hne => absurd hse hne) fun c hc j hj => ((hout c hc).2 j hj).1
                simp [hse, h15]
                refine run_Take (L := L) (B := S.next + 1) (ib := S.next) hl hw7 hx7 hI hH hh hm2 (by rw [hu7 S.next (by omega) (by omega)]; exact inn) ⟨by omega, by omega, by omega⟩ fun S8 h8 t8 c8 hR8 hc8 hlen8 => ?_
                simp [h2, h3, h4, h11, h12, h15]
                exact ⟨x.set i (b.eval x), h8, t8, by omega, hc8, rfl, hR8⟩
              · simp [hse, h11, h19]
                obtain ⟨m, hmi⟩ : ∃ m, L[i]? = some m := ⟨_, List.getElem?_eq_getElem (by omega)⟩
                have hLm := hLs m (List.mem_of_getElem? hmi)
                have hmf : FSl intc 1 (encF intc 1 m) m := encF_sl
                have hrf : FSl (fun m => [encF intc 1 m]) 1 (.fsl 1 (els (fun m => [encF intc 1 m]) L)) L := FSl.mk
                simp [hrf.idx hmi, hmf.len]
                refine W.whileI (fun (a : Nat) F S' => a ≤ m.length ∧ F 2 = .sl 2 o 0 l.length ∧ F 3 = .func (.func 187) [flowE l] [] ∧ F 4 = .func (.func 21) [] [] ∧ F 11 = .fsl 1 (els (fun m => [encF intc 1 m]) L) ∧ F 12 = .sl 1 S.next 0 l.length ∧ F 15 = .ptr Wp 0 0 ∧
                  (∃ c, F 18 = .int .i64 c) ∧ F 96 = encF intc 1 m ∧ F 97 = .int .i64 m.length ∧ F 98 = .int .i64 a ∧ PutR l.length o S.next (S.next + 1) (x.set i (b.eval x)) ord Wp A I H ov h m a S') (fun a => m.length - a) ?_ 0 _ _ ?_
                · rintro a F S8 ⟨ha, h2, h3, h4, h11, h12, h15, ⟨c, h18⟩, h96, h97, h98, ho8, h8, hw8, hx8, hb8, ht8, hi8, hn8⟩
                  by_cases hlta : a < m.length
                  · have e4 := wrapS a (by omega)
                    obtain ⟨r, hr⟩ : ∃ r, m[a]? = some r := ⟨_, List.getElem?_eq_getElem hlta⟩
                    have hr0 := hLm.2 r (List.mem_of_getElem? hr)
                    obtain ⟨r, rfl⟩ : ∃ k : Nat, r = (k : Int) := ⟨r.toNat, by omega⟩
                    have hrl : r < l.length := by omega
                    have hrt : (List.replicate l.length true)[r]? = some true := by simp [hrl]
                    simp [h97, h98, hlta]
                    simp [h96, h98, hmf.idx hr, h12, ix_sl hrl, hi8, hrt, boolc, intc, h15]
                    refine work_Put hw8 hrl (by omega) fun S9 ho9 h9 b9 k1 k2 k3 k4 k5 => ?_
                    obtain ⟨m1, m2, m3⟩ := putI_step (ib := S.next) (B := S.next + 1) hx8 k3 k4 ⟨by omega, by omega, hn8⟩ hI hH hb8
                    simp [h2, h3, h4, h11, h12, h15, h18, h96, h97, h98, e4]
                    refine ⟨a + 1, by omega, by omega, by omega, ho9, h9, k1, m1, m3, fun j => ?_, by rw [m2]; exact hi8, by have := k3.1; omega⟩
                    rw [k2, ht8, List.take_add_one, hr]
                    have e : ((j : Int) = (r : Int)) ↔ j = r := by omega
                    simp [or_assoc, e]
                  · have : a = m.length := by omega
                    subst this
                    simp [h97, h98, hlta, h15]
                    have hm2 : Mid l (x.set i (b.eval x)) (fun j => todo ord h8 j) := hm.step hb hs (fun k hk => by
                      by_cases hki : k = i
                      · exact .inl hki
                      · refine .inr fun hh => ?_
                        rcases hh with hh | hh
                        · exact hk ((ht8 k).2 (.inl hh))
                        · cases hh; exact hki rfl) (fun hne k c hc hi => by
                          obtain ⟨m', q1, q2⟩ := hTa i k c hc hi
                          rw [hmi] at q1; cases q1
                          exact (ht8 k).2 (.inr (by simpa using q2))) fun c hc j hj => ((hout c hc).2 j hj).1
                    have hl8 := hw8.hl
                    refine run_Take (L := L) (B := S.next + 1) (ib := S.next) hl hw8 hx8 hI hH hb8 hm2 hi8 ⟨by omega, by omega, hn8⟩ fun S9 h9 t9 c9 hR9 hc9 hlen9 => ?_
                    simp [h2, h3, h4, h11, h12, h15, h18]
                    refine ⟨x.set i (b.eval x), h9, t9, ?_, hc9, rfl, hR9⟩
                    have := hle.2 hse
                    omega
                · simp [h2, h3, h4, h11, h12, h15]
                  exact ⟨ho, h, hw7, hx7, hh, fun j => by simp, by rw [hu7 S.next (by omega) (by omega)]; exact inn, by omega⟩
          · simp [h2, h3, h4, h11, h12, h15]
            exact ⟨hc, hR⟩
      · simp [h2, h3, h4, h11, h12]
        refine ⟨ho, [], hw, hx2, hBh.2.2.2.2, fun j => ⟨fun h => absurd h (hntd j), fun h => absurd h (by omega)⟩, hob2, by omega⟩
  · simp [e1]
    exact ⟨Up.new _ _, List.replicate l.length false, by simp, rfl⟩
end Go.Proofs.YtchkknkjhiaooaaGreatDoor.Vm
namespace Go.Proofs.YtchkknkjhiaooaaGreatDoor.Vm
open Go Go.RowKit
variable {N : Nat} {g : Glob}
theorem slices_Clone_sets {n : Nat} {S : St} {K : AV → St → Prop} (hn : n ≤ 12) (hn0 : 0 < n) (hk : ∀ q S', S.next ≤ q → q < S'.next → Up S S' → S'.obj q = some (.row 2 (List.replicate n [.int .i64 0, .nilsl])) → K (.sl 2 q 0 n) S') : Cal P g 185 [.fsl 2 (List.replicate n [.int .i64 0, .nilsl])] S K := by
  refine c185.in (by simp) ?_
  have hroom : n ≤ room := by simp [room]; omega
  have hr0 : ¬ room = 0 := by simp [room]
  simp [k185]
  have hnil : ¬ n = 0 := by omega
  have hok : okAll 2 (List.replicate n [.int .i64 0, .nilsl]) := by
    simp [okAll, okEl]
  simp [hnil, hroom, hr0, hok, show ¬ room < n by omega]
  refine hk _ _ (by omega) (by simp) ⟨by simp; omega, fun p hp => by simp [show ¬ p = S.next by omega, show ¬ p = S.next + 1 by omega]⟩ (by simp)
theorem XR.news {S : St} {o : Nat} {x : List BSet} (h : XR (fun _ => False) S o x) : XR (fun _ => False) S.news o x := by
  obtain ⟨es, k1, k2, k3, k4⟩ := h
  refine ⟨es, ?_, k2, k3, fun k s hs => ?_⟩
  · rw [news_obj, k1]
    have : (AObj.row 2 es).young = true := by
      simp only [AObj.young, youngss_iff, List.mem_flatten]
      rintro v ⟨e, he, hv⟩
      obtain ⟨k, hk⟩ := List.getElem?_of_mem he
      have hlt := (List.getElem?_eq_some_iff.1 hk).1
      obtain ⟨q, m1, _⟩ := k4 k x[k] (List.getElem?_eq_getElem (by omega))
      rw [hk] at m1; cases m1
      simp at hv
      rcases hv with rfl | rfl <;> rfl
    simp [Option.filter, this]
  · obtain ⟨q, m1, m2, m3, m4⟩ := k4 k s hs
    refine ⟨q, m1, m2, ?_, m4⟩
    rw [news_obj, m3]
    have : (AObj.row 1 (els u64c s.ws)).young = true := by
      simp only [AObj.young, youngss_iff, List.mem_flatten, els, List.mem_map]
      rintro v ⟨e, ⟨w, _, rfl⟩, hv⟩
      simp [u64c] at hv
      subst hv; rfl
    simp [Option.filter, this]
def SolI (n q a : Nat) (S : St) : Prop := q < S.next ∧ q ≠ 0 ∧ ∃ es, S.obj q = some (.row 2 es) ∧ es.length = n ∧ (∀ e ∈ es, e.length = 2) ∧ ∀ k, k < a → ∃ p, es[k]? = some [.int .i64 6, .sl 1 p 0 1] ∧ p < S.next ∧ S.obj p = some (.row 1 (els u64c (BSet.new 6).ws))
theorem SolI.step {n q a : Nat} {S : St} (h : SolI n q a S) (ha : a < n) : ∃ es, S.obj q = some (.row 2 es) ∧ es.length = n ∧ (∀ e ∈ es, e.length = 2) ∧
    SolI n q (a + 1) ((S.new (.row 1 (els u64c (List.replicate (nw 6) 0)))).set q (.row 2 (es.set a [.int .i64 6, .sl 1 S.next 0 (nw 6)]))) := by
  obtain ⟨h1, h0, es, h2, h3, h5, h4⟩ := h
  refine ⟨es, h2, h3, h5, by simp; omega, h0, _, by simp; rfl, by simp [h3], fun e he => ?_, fun k hk => ?_⟩
  · rcases List.mem_or_eq_of_mem_set he with h | rfl
    · exact h5 e h
    · rfl
  by_cases hka : k = a
  · subst hka
    refine ⟨S.next, by rw [List.getElem?_set_self (by omega)]; rfl, by simp, ?_⟩
    simp [show ¬ S.next = q by omega]; rfl
  · obtain ⟨p, k1, k2, k3⟩ := h4 k (by omega)
    have hpq : ¬ p = q := fun e => by rw [e, h2] at k3; cases k3
    exact ⟨p, by rw [List.getElem?_set_ne (Ne.symm hka)]; exact k1, by simp; omega, by simp [hpq, show ¬ p = S.next by omega, k3]⟩
theorem SolI.done {n q : Nat} {S : St} (h : SolI n q n S) : XR (fun _ => False) S q (List.replicate n (BSet.new 6)) := by
  obtain ⟨h1, h0, es, h2, h3, h5, h4⟩ := h
  refine ⟨es, h2, by simp [h3], h1, fun k s hs => ?_⟩
  rw [List.getElem?_replicate] at hs
  split at hs
  · rename_i hk
    cases hs
    obtain ⟨p, k1, k2, k3⟩ := h4 k hk
    exact ⟨p, k1, k2, k3, fun h => h⟩
  · cases hs
theorem solver_solve {l : List Blk} (hl : l.length ≤ 12) (hl0 : 0 < l.length) (hout : ∀ b ∈ l, b.out.length < 64 ∧ ∀ j ∈ b.out, 0 ≤ j ∧ j < l.length) :
    Ret P g true 124 [flowE l, .fsl 2 (List.replicate l.length [.int .i64 0, .nilsl]), .fsl 1 (els natc (List.range l.length))] (.tuple [.fsl 2 (els setc (sol l)), .anyi .i64]) := by
  refine Ret.inP c124 (by simp) ?_
  have hlf : FSl natc 1 (.fsl 1 (els natc (List.range l.length))) (List.range l.length) := FSl.mk
  simp [k124, flowE]
  refine slices_Clone_sets hl hl0 fun q S1 h1 h2 h3 h4 => ?_
  simp [hlf.len]
  refine W.whileI (fun (a : Nat) F S => a ≤ l.length ∧ F 2 = .fsl 1 (els natc (List.range l.length)) ∧ F 3 = .ptr 0 0 0 ∧ F 8 = .sl 2 q 0 l.length ∧ F 13 = .fsl 1 (els natc (List.range l.length)) ∧ F 14 = .int .i64 l.length ∧ F 15 = .int .i64 a ∧ S.obj 0 = some (.row 4 [(flowE l).cells]) ∧ 0 < S.next ∧ SolI l.length q a S) (fun a => l.length - a) ?_ 0 _ _ ?_
  · rintro a F S ⟨ha, h2, h3, h8, h13, h14, h15, h0, hn0, hI⟩
    by_cases hlt : a < l.length
    · have e4 := wrapS a (by omega)
      have hr : (List.range l.length)[a]? = some a := by rw [List.getElem?_range hlt]
      simp [h14, h15, hlt]
      simp [h13, h15, hlf.idx hr, natc, h8, h3, h0, flowE]
      refine (bits_New 6 (by omega)).use' (n := 9) ?_ ?_ ?_ <;> simp
      obtain ⟨es, he, hel, h2e, hI2⟩ := hI.step hlt
      have hq := hI.1
      have hq0 := hI.2.1
      have h0' := h0
      simp only [flowE, cells_agg] at h0'
      simp [ix_sl hlt, he, show ¬ q = S.next by omega, hel, hlt, h2, h3, h8, h13, h14, h15, e4, Ne.symm hq0, show ¬ 0 = S.next by omega, h0', flowE]
      have hea := h2e es[a] (List.getElem_mem _)
      match hz : es[a], hea with
      | [u, v], _ =>
        simp
        exact ⟨a + 1, by omega, by omega, by omega, hI2⟩
    · have : a = l.length := by omega
      subst this
      have h0' := h0
      simp only [flowE, cells_agg] at h0'
      simp [h14, h15, hlt, h3, h2, h8, h0']
      refine solver_Run hl hout hI.done fun S2 hx2 hn2 => ?_
      simp [RP]
      refine ⟨7, ?_⟩
      have hp := hx2.news.pict (m := 3) (sol_good l)
      rw [sol_len] at hp
      simp [mapOpt, hp]
  · simp
    exact ⟨by rw [h3.2 0 (by simp)]; simp [flowE], by omega, h2, by simp at h1; omega, _, h4, by simp, fun e he => by rw [List.mem_replicate] at he; rw [he.2]; rfl, fun k hk => absurd hk (by omega)⟩
end Go.Proofs.YtchkknkjhiaooaaGreatDoor.Vm
namespace Go.Proofs.YtchkknkjhiaooaaGreatDoor.Vm
open Go Go.RowKit
variable {N : Nat} {g : Glob}
theorem encF_map {α β : Type} {e : β → List AV} {f : α → β} {sz : Nat} {l : List α} : encF (fun a => e (f a)) sz l = encF e sz (l.map f) := by
  cases l <;> simp [encF, els]
theorem sets1 {S : St} {o : Nat} {w1 w2 w3 : AV} {s : BSet} {K : AV → St → Prop} (hs : s.OK) (hn : s.n = 6) (ho : S.obj o = some (.row 4 [[.int .i64 6, w1, w2, w3]])) (hol : o < S.next) (hk : ∀ S', Up S S' → K (.bool false) S') : Cal P g 253 [encB s, .ptr o 0 0] S K := by
  refine c253.in (by simp) ?_
  simp [k253, show ¬ o = S.next by omega, ho, hn]
  refine (bits_Sane s hs).use (n := 9) ?_ rfl ?_ <;> simp [hn]
  exact hk _ (Up.new _ _)
theorem solver_sets {l : List Blk} {xs : List BSet} (hx : Good xs) (hxl : xs.length = l.length) (hl : l.length ≤ 12) : Ret P g false 182 [flowE l, encF setc 2 xs] (.bool true) := by
  refine Ret.in c182 (by simp) ?_
  have hxf : FSl setc 2 (encF setc 2 xs) xs := encF_sl
  have o1 := flow_out l
  have v1 : (encF (fun b : Blk => [b.outV]) 1 l).cells = [encF (fun b : Blk => [b.outV]) 1 l] := o1.cells
  simp [k182, flowE, hxf.len, o1.len, hxl]
  refine ContainsFunc_set hxf (by omega) (fun _ => false) ?_ ?_
  · intro s hs S' hup K' hk
    simp
    have h0 := hup.2 0 (by simp)
    simp at h0
    exact sets1 (hx s hs).1 (hx s hs).2 h0 (by have := hup.1; simp at this; omega) fun S'' h2 => hk S'' (hup.trans h2)
  · intro S' hup
    simp
    exact RK.eq (by simp) rfl
theorem solver_Sane1 {S : St} {o n : Nat} {w0 w1 w2 w3 : AV} {j : Int} {K : AV → St → Prop} (ho : S.obj o = some (.row 4 [[w0, w1, w2, w3]])) (hw : lenV w1 = some n) (hj : 0 ≤ j ∧ j < n) (hk : K (.bool false) S) : Cal P g 184 [.int .i64 j, .ptr o 0 0] S K := by
  refine c184.in (by simp) ?_
  simp [k184, ho, show ¬ j < 0 by omega, show ¬ (n : Int) ≤ j by omega, hw]
  exact hk
theorem solver_Sane {l : List Blk} (hl : l.length ≤ 12) (hout : ∀ b ∈ l, b.out.length < 64 ∧ ∀ j ∈ b.out, 0 ≤ j ∧ j < l.length) : Ret P g false 123 [flowE l] (.bool true) := by
  refine Ret.in c123 (by simp) ?_
  have o1 := flow_out l
  have hg := flow_gen l
  have hkl := flow_kill l
  have e2 : encF (fun b : Blk => setc b.gen) 2 l = encF setc 2 (l.map Blk.gen) := encF_map
  have e3 : encF (fun b : Blk => setc b.kill) 2 l = encF setc 2 (l.map Blk.kill) := encF_map
  have g2 : Good (l.map Blk.gen) := fun s hs => by
    rw [List.mem_map] at hs; obtain ⟨b, _, rfl⟩ := hs; exact b.gen_ok
  have g3 : Good (l.map Blk.kill) := fun s hs => by
    rw [List.mem_map] at hs; obtain ⟨b, _, rfl⟩ := hs; exact b.kill_ok
  have hfp : flowE l = .agg [.int .i64 6, encF (fun b : Blk => [b.outV]) 1 l, encF setc 2 (l.map Blk.gen), encF setc 2 (l.map Blk.kill)] := by rw [flowE, e2, e3]
  have hsl : (flowE l).solid = true := flowE_solid l
  have hst : ∀ (S : St) (n : Nat), pict S [] (n + 2) (flowE l) = some (flowE l) := fun S n => flowE_pict l
  have s2 := solver_sets (l := l) (g := g) g2 (by simp) hl
  have s3 := solver_sets (l := l) (g := g) g3 (by simp) hl
  rw [hfp] at hst hsl s2 s3
  rw [hfp]
  have n2 : FSl setc 2 (encF setc 2 (l.map Blk.gen)) (l.map Blk.gen) := encF_sl
  have n3 : FSl setc 2 (encF setc 2 (l.map Blk.kill)) (l.map Blk.kill) := encF_sl
  simp [k123, o1.len, show ¬ (64 : Int) < l.length by omega]
  refine (s2).use (n := 9) (by simp [mapOpt, pict_stab o1.stab, pict_stab n2.stab, pict_stab n3.stab]) (by simp [solids, AV.solid, o1.solid, n2.solid, n3.solid]) ?_
  simp
  refine (s3).use (n := 9) (by simp [mapOpt, pict_stab o1.stab, pict_stab n2.stab, pict_stab n3.stab]) (by simp [solids, AV.solid, o1.solid, n2.solid, n3.solid]) ?_
  simp [o1.len]
  refine W.whileI (fun (a : Nat) F S => a ≤ l.length ∧ F 1 = .ptr 0 0 0 ∧ F 34 = encF (fun b : Blk => [b.outV]) 1 l ∧ F 35 = .int .i64 l.length ∧ F 36 = .int .i64 a ∧ 1 ≤ S.next ∧ S.obj 0 = some (.row 4 [[.int .i64 6, encF (fun b : Blk => [b.outV]) 1 l, encF setc 2 (l.map Blk.gen), encF setc 2 (l.map Blk.kill)]])) (fun a => l.length - a) ?_ 0 _ _ ?_
  · rintro a F S ⟨ha, h1, h34, h35, h36, hn, h0⟩
    by_cases hlt : a < l.length
    · have e4 := wrapS a (by omega)
      obtain ⟨b, hb⟩ : ∃ b, l[a]? = some b := ⟨_, List.getElem?_eq_getElem hlt⟩
      have hbo := hout b (List.mem_of_getElem? hb)
      simp [h35, h36, hlt]
      simp [h34, h36, o1.idx hb, h1]
      refine ContainsFunc_int b.outS (by omega) (fun _ => false) ?_ ?_
      · intro j hj S' hup K' hk
        simp
        exact solver_Sane1 (by rw [hup.2 0 (by omega)]; exact h0) o1.len (hbo.2 j hj) (hk S' hup)
      · intro S' hup
        have hfl : (b.out.any fun _ => false) = false := by simp
        simp [hfl, h35, h36, h34, h1, e4]
        exact ⟨a + 1, by omega, by omega, by omega, by have := hup.1; omega, by rw [hup.2 0 (by omega)]; exact h0⟩
    · have : a = l.length := by omega
      subst this
      simp [h35, h36]
      exact RK.eq rfl rfl
  · simp
theorem flowE_cut (l : List Blk) : ∃ w1 w2 w3, flowE l = .agg [.int .i64 6, w1, w2, w3] ∧ FSl (fun b : Blk => [b.outV]) 1 w1 l ∧ FSl (fun b : Blk => setc b.gen) 2 w2 l ∧ FSl (fun b : Blk => setc b.kill) 2 w3 l :=
  ⟨_, _, _, rfl, flow_out l, flow_gen l, flow_kill l⟩
theorem solver_Solve {l : List Blk} (hl : l.length ≤ 12) (hl0 : 0 < l.length) (hout : ∀ b ∈ l, b.out.length < 64 ∧ ∀ j ∈ b.out, 0 ≤ j ∧ j < l.length) : Ret P g false 66 [flowE l] (.tuple [.fsl 2 (els setc (sol l)), .anyi .i64]) := by
  refine Ret.in c66 (by simp) ?_
  have hroom : l.length ≤ room := by simp [room]; omega
  have hs := solver_Sane (g := g) hl hout
  have hv := solver_solve (g := g) hl hl0 hout
  have ha := solver_all (g := g) l.length (by omega)
  obtain ⟨w1, w2, w3, he, f1, f2, f3⟩ := flowE_cut l
  rw [he] at hs hv ⊢
  simp [k66]
  refine (hs).use (n := 9) (by simp [mapOpt, pict_stab f1.stab, pict_stab f2.stab, pict_stab f3.stab]) (by simp [solids, AV.solid, f1.solid, f2.solid, f3.solid]) ?_
  simp [f1.len]
  refine Dra.auto [5] mix ?_ ?_
  · kernel_rfl
  simp [classes, hroom]
  refine (ha).b (n := 9) ?_ rfl ?_ <;> simp
  have hp : ∀ n, pict ((St.empty.new (.row 4 [[.int .i64 6, w1, w2, w3]])).new (.row 2 (List.replicate l.length [.int .i64 0, .nilsl]))) [] (n + 2) (.sl 2 1 0 l.length) = some (.fsl 2 (List.replicate l.length [.int .i64 0, .nilsl])) := by
    intro n
    refine pict_row (es := List.replicate l.length [.int .i64 0, .nilsl]) (by simp) (by simp) (by simp) fun k e he => ?_
    rw [he]
    have := List.mem_of_getElem? he
    rw [List.mem_replicate] at this
    rw [this.2]
    simp [mapOpt]
  refine ⟨.tuple [.fsl 2 (els setc (sol l)), .anyi .i64], (St.empty.new (.row 4 [[.int .i64 6, w1, w2, w3]])).new (.row 2 (List.replicate l.length [.int .i64 0, .nilsl])), (hv).use (n := 9) (by simp [mapOpt, hp, pict_stab f1.stab, pict_stab f2.stab, pict_stab f3.stab]) (by simp) ⟨rfl, rfl⟩, ?_⟩
  simp
  exact ⟨2, by simp [mapOpt]⟩
end Go.Proofs.YtchkknkjhiaooaaGreatDoor.Vm
