/- A part of the proof: Rq Sd. -/
import Derived.Test.YtchkknkjhiaooaaGreatDoorQd0
set_option linter.unusedVariables false
set_option linter.unusedSimpArgs false
set_option linter.constructorNameAsVariable false
namespace Go.Proofs.YtchkknkjhiaooaaGreatDoor.Vm
open Go Go.RowKit
variable {N : Nat} {g : Glob}
theorem RP.ints {S : St} {o k : Nat} {l : List Int} (h : S.obj o = some (.row 1 (els intc l))) (hk : l.length = k) : RP (.fsl 1 (els intc l)) (.sl 1 o 0 k) S := ⟨rfl, 9, pict_rowP (n := 7) (ints_news h) hk⟩
set_option maxHeartbeats 1000000 in
theorem law20_step (l : List Int) (v : AV) (hv : FSl intc 1 v l) (x : Ins) (w : Int) (hl : l.length ≤ 64) (hd : x.def < 0 ∨ (0 ≤ x.def ∧ x.def < l.length ∧ 0 ≤ x.a ∧ x.a < l.length ∧ 0 ≤ x.b ∧ x.b < l.length)) : Ret P (gl N) true 47 [v, encI x, .int .i64 w] (.fsl 1 (els intc (stepL l x w))) := by
  refine Ret.inP c47 (by simp) ?_
  have hvo := fsl_one hv
  simp [k47, hv.elems]
  by_cases hl0 : l = []
  · subst hl0
    have hdn : x.def < 0 := by
      rcases hd with h | h
      · exact h
      · simp at h; omega
    simp
    refine (instr_Def x).use (n := 9) (by rfl) rfl ?_
    simp [hdn]
    have : stepL [] x w = [] := by simp [stepL, hdn]
    rw [this]
    exact RP.ints (l := []) (by simp [els]) rfl
  · have hlr : ¬ room < l.length := by simp [room]; omega
    have hlr2 : l.length ≤ room := by omega
    simp [hl0, hlr, hlr2]
    refine (instr_Def x).use (n := 9) (by rfl) rfl ?_
    simp
    rcases hd with hdn | ⟨hd0, hdl, ha0, hal, hb0, hbl⟩
    · simp [hdn]
      have : stepL l x w = l := by simp [stepL, hdn]
      rw [this]
      exact RP.ints (by simp) rfl
    · obtain ⟨d, hdd⟩ : ∃ d : Nat, x.def = (d : Int) := ⟨x.def.toNat, by omega⟩
      obtain ⟨a, haa⟩ : ∃ a : Nat, x.a = (a : Int) := ⟨x.a.toNat, by omega⟩
      obtain ⟨b, hbb⟩ : ∃ b : Nat, x.b = (b : Int) := ⟨x.b.toNat, by omega⟩
      have hdl' : d < l.length := by omega
      have hal' : a < l.length := by omega
      have hbl' : b < l.length := by omega
      obtain ⟨u, hu⟩ : ∃ u, l[d]? = some u := ⟨_, List.getElem?_eq_getElem hdl'⟩
      obtain ⟨ua, hua⟩ : ∃ u, l[a]? = some u := ⟨_, List.getElem?_eq_getElem hal'⟩
      obtain ⟨ub, hub⟩ : ∃ u, l[b]? = some u := ⟨_, List.getElem?_eq_getElem hbl'⟩
      have hga : l[x.a.toNat]?.getD 0 = ua := by rw [haa]; simp [hua]
      have hgb : l[x.b.toNat]?.getD 0 = ub := by rw [hbb]; simp [hub]
      have hst : stepL l x w = l.set d (stepV l x w) := by
        unfold stepL
        rw [if_neg (by omega), hdd]; rfl
      have e3 : ∀ z : Int, (els intc l).set d [AV.int .i64 z] = els intc (l.set d z) := fun z => els_set (e := intc)
      have hla : ¬ (l.length : Int) ≤ x.a := by omega
      have hlb : ¬ (l.length : Int) ≤ x.b := by omega
      have hld : ¬ (l.length : Int) ≤ x.def := by omega
      have hdn : ¬ x.def < 0 := by omega
      have fin : ∀ (S : St) (z : Int), S.obj 2 = some (.row 1 (els intc (l.set d z))) → stepV l x w = z → RP (.fsl 1 (els intc (stepL l x w))) (.sl 1 2 0 l.length) S := fun S z h1 h2 => by
        rw [hst, h2]
        exact RP.ints h1 (by simp)
      simp [hdn, hld, hla, hlb]
      by_cases k0 : x.kind = 0
      · simp [k0, hdd, ix_sl hdl', hu, intc, e3]
        exact fin _ x.c (by simp) (by simp [stepV, k0])
      by_cases k1 : x.kind = 1
      · simp [k1, hdd, haa, hv.idx hua, ix_sl hdl', hu, intc, e3]
        exact fin _ ua (by simp) (by simp [stepV, k1, hga])
      by_cases k2 : x.kind = 2
      · simp [k2, haa, hv.idx hua, intc]
        refine (ref02_Wrap (IntKind.i64.wrap (-ua))).use (n := 9) ?_ rfl ?_ <;> simp
        simp [hdd, ix_sl hdl', hu, intc, e3]
        exact fin _ (wrap32 (IntKind.i64.wrap (-ua))) (by simp) (by simp [stepV, k2, hga])
      by_cases k3 : x.kind = 3
      · simp [k3]
        refine Dra.auto [] mix ?_ ?_
        · kernel_rfl
        simp [classes, haa, hbb, hv.idx hua, hv.idx hub, intc]
        refine (ref02_Wrap (IntKind.i64.wrap (ua + ub))).b (n := 9) (by simp [mapOpt]) rfl ?_
        simp [hdd, ix_sl hdl', hu, intc, e3]
        exact fin _ (wrap32 (IntKind.i64.wrap (ua + ub))) (by simp) (by simp [stepV, k3, hga, hgb, i64add])
      by_cases k4 : x.kind = 4
      · simp [k4]
        refine Dra.auto [] mix ?_ ?_
        · kernel_rfl
        simp [classes, haa, hbb, hv.idx hua, hv.idx hub, intc]
        refine (ref02_Wrap (IntKind.i64.wrap (ua - ub))).b (n := 9) (by simp [mapOpt]) rfl ?_
        simp [hdd, ix_sl hdl', hu, intc, e3]
        exact fin _ (wrap32 (IntKind.i64.wrap (ua - ub))) (by simp) (by simp [stepV, k4, hga, hgb, i64sub])
      by_cases k5 : x.kind = 5
      · simp [k5]
        refine Dra.auto [] mix ?_ ?_
        · kernel_rfl
        simp [classes, haa, hbb, hv.idx hua, hv.idx hub, intc]
        refine (ref02_Wrap (IntKind.i64.wrap (ua * ub))).b (n := 9) (by simp [mapOpt]) rfl ?_
        simp [hdd, ix_sl hdl', hu, intc, e3]
        exact fin _ (wrap32 (IntKind.i64.wrap (ua * ub))) (by simp) (by simp [stepV, k5, hga, hgb, i64mul])
      simp [k0, k1, k2, k3, k4, k5]
      refine (ref02_Wrap w).use (n := 9) ?_ rfl ?_ <;> simp
      simp [hdd, ix_sl hdl', hu, intc, e3]
      exact fin _ (wrap32 w) (by simp) (by simp [stepV, k0, k1, k2, k3, k4, k5])
def Tells (n : Nat) (l : List Int) (e : Env) : Prop := l.length = n ∧ ∃ m, e = some m ∧ m.length = n ∧ okL m ∧ ∀ (k : Nat) u v, l[k]? = some u → m[k]? = some v → (-2147483648 ≤ u ∧ u ≤ 2147483647) ∧ (⟨1, u⟩ : Val).le v
theorem Tells.le {n : Nat} {l : List Int} {e e' : Env} (h : Tells n l e) (he : e'.fit n) (hle : e.le e') : Tells n l e' := by
  obtain ⟨h1, m, rfl, h2, h3, h4⟩ := h
  obtain ⟨m', rfl, h5⟩ := hle m rfl
  obtain ⟨g1, g2⟩ := he m' rfl
  refine ⟨h1, m', rfl, g1, g2, fun k u v hu hv => ?_⟩
  have hk := (List.getElem?_eq_some_iff.1 hu).1
  obtain ⟨z, hz⟩ : ∃ z, m[k]? = some z := ⟨_, List.getElem?_eq_getElem (by omega)⟩
  obtain ⟨q1, q2⟩ := h4 k u z hu hz
  exact ⟨q1, Val.le_trans (h3 z (List.mem_of_getElem? hz)) q2 (h5 k z v hz hv)⟩
theorem one_ok {u : Int} (h : -2147483648 ≤ u ∧ u ≤ 2147483647) : (⟨1, u⟩ : Val).ok = true := by simp [Val.ok, h]
theorem Tells.leq {n : Nat} {l : List Int} {e : Env} (h : Tells n l e) (k : Nat) (u : Int) (hu : l[k]? = some u) : (⟨1, wrap32 u⟩ : Val).leq (e.get k) = true := by
  obtain ⟨h1, m, rfl, h2, h3, h4⟩ := h
  have hk := (List.getElem?_eq_some_iff.1 hu).1
  obtain ⟨z, hz⟩ : ∃ z, m[k]? = some z := ⟨_, List.getElem?_eq_getElem (by omega)⟩
  obtain ⟨q1, q2⟩ := h4 k u z hu hz
  have : Env.get (some m) k = z := getL_of h3 hz
  rw [this, wrap32_of q1, Val.leq_iff (one_ok q1) (h3 z (List.mem_of_getElem? hz))]
  exact q2
theorem Tells.isSome {n : Nat} {l : List Int} {e : Env} (h : Tells n l e) : e.isSome = true := by
  obtain ⟨_, m, rfl, _⟩ := h; rfl
theorem Tells.get {n : Nat} {l : List Int} {e : Env} (h : Tells n l e) {a : Int} (ha : 0 ≤ a ∧ a < n) : ∃ u, l.getD a.toNat 0 = u ∧ (-2147483648 ≤ u ∧ u ≤ 2147483647) ∧ (⟨1, u⟩ : Val).le (e.get a) ∧ (e.get a).ok = true := by
  obtain ⟨h1, m, rfl, h2, h3, h4⟩ := h
  obtain ⟨k, rfl⟩ : ∃ k : Nat, a = (k : Int) := ⟨a.toNat, by omega⟩
  obtain ⟨u, hu⟩ : ∃ z, l[k]? = some z := ⟨_, List.getElem?_eq_getElem (by omega)⟩
  obtain ⟨z, hz⟩ : ∃ z, m[k]? = some z := ⟨_, List.getElem?_eq_getElem (by omega)⟩
  obtain ⟨q1, q2⟩ := h4 k u z hu hz
  refine ⟨u, by simp [List.getD_eq_getElem?_getD, hu], q1, ?_, Env.get_ok _ _⟩
  have : Env.get (some m) k = z := getL_of h3 hz
  rw [this]; exact q2
theorem one_le_of {u : Int} {v : Val} (hv : v.ok = true) (h : (⟨1, u⟩ : Val).le v) : v = ⟨2, 0⟩ ∨ v = ⟨1, u⟩ := by
  rcases h with h | h | h
  · cases h
  · exact .inl (Val.ok_top hv h)
  · exact .inr h.symm
theorem each_tells {op : Int → Int → Int} {u v : Int} {a b : Val} (hu : -2147483648 ≤ u ∧ u ≤ 2147483647) (hv : -2147483648 ≤ v ∧ v ≤ 2147483647) (ha : a.ok = true) (hb : b.ok = true) (h1 : (⟨1, u⟩ : Val).le a) (h2 : (⟨1, v⟩ : Val).le b) : (⟨1, wrap32 (op u v)⟩ : Val).le (a.each op b) := by
  rw [Val.each_of ha hb]
  rcases one_le_of ha h1 with rfl | rfl <;> rcases one_le_of hb h2 with rfl | rfl <;> simp
  all_goals first | exact .inr (.inl rfl) | exact Val.le_refl _
theorem Tells.step {n : Nat} {l : List Int} {e : Env} (h : Tells n l e) {x : Ins} {w : Int} (hc : -2147483648 ≤ x.c ∧ x.c ≤ 2147483647) (hd : x.def < 0 ∨ (0 ≤ x.def ∧ x.def < n ∧ 0 ≤ x.a ∧ x.a < n ∧ 0 ≤ x.b ∧ x.b < n)) : Tells n (stepL l x w) (x.flat e) := by
  have hfit : e.fit n := by
    obtain ⟨_, m, rfl, h2, h3, _⟩ := h
    exact Env.fit_some h2 h3
  rcases hd with hd | ⟨hd0, hdl, ha0, hal, hb0, hbl⟩
  · rw [flat_same hfit hd]
    unfold stepL
    rw [if_pos hd]; exact h
  · have hval : (-2147483648 ≤ stepV l x w ∧ stepV l x w ≤ 2147483647) ∧ (⟨1, stepV l x w⟩ : Val).le (x.number e) := by
      obtain ⟨ua, ga, ra, la, oa⟩ := h.get ⟨ha0, hal⟩
      obtain ⟨ub, gb, rb, lb, ob⟩ := h.get ⟨hb0, hbl⟩
      unfold stepV Ins.number
      rw [ga, gb]
      by_cases k0 : x.kind = 0
      · simp only [k0, if_true]
        exact ⟨hc, by rw [wrap32_of hc]; exact Val.le_refl _⟩
      by_cases k1 : x.kind = 1
      · simp only [k0, k1, if_true, if_false]
        exact ⟨ra, la⟩
      by_cases k2 : x.kind = 2
      · simp only [k0, k1, k2, if_true, if_false]
        refine ⟨wrap32_in _, ?_⟩
        have z : wrap32 0 = 0 := rfl
        rw [z]
        exact each_tells (op := i64sub) (u := 0) (by omega) ra rfl oa (Val.le_refl _) la
      by_cases k3 : x.kind = 3
      · simp only [k0, k1, k2, k3, if_true, if_false]
        exact ⟨wrap32_in _, each_tells ra rb oa ob la lb⟩
      by_cases k4 : x.kind = 4
      · simp only [k0, k1, k2, k3, k4, if_true, if_false]
        exact ⟨wrap32_in _, each_tells ra rb oa ob la lb⟩
      by_cases k5 : x.kind = 5
      · simp only [k0, k1, k2, k3, k4, k5, if_true, if_false]
        exact ⟨wrap32_in _, each_tells ra rb oa ob la lb⟩
      simp only [k0, k1, k2, k3, k4, k5, if_false]
      exact ⟨wrap32_in _, .inr (.inl rfl)⟩
    obtain ⟨h1, m, rfl, h2, h3, h4⟩ := h
    have hnum := x.number_ok (some m)
    unfold Ins.flat
    rw [Env.set_of hfit _ hnum, if_pos ⟨hd0, hdl⟩]
    unfold stepL
    rw [if_neg (by omega)]
    refine ⟨by simp [h1], _, rfl, by simp [h2], fun v hv => ?_, fun k u v hu hv => ?_⟩
    · rcases List.mem_or_eq_of_mem_set hv with hv | rfl
      · exact h3 v hv
      · exact hnum
    · by_cases hk : k = x.def.toNat
      · subst hk
        rw [List.getElem?_set_self (by omega)] at hu hv
        cases hu; cases hv
        exact hval
      · rw [List.getElem?_set_ne (Ne.symm hk)] at hu hv
        exact h4 k u v hu hv
end Go.Proofs.YtchkknkjhiaooaaGreatDoor.Vm
namespace Go.Proofs.YtchkknkjhiaooaaGreatDoor.Vm
open Go Go.RowKit
variable {N : Nat} {g : Glob}
theorem fold_ge {n : Nat} {h : Int → Env} (hh : ∀ j, (h j).fit n) (m : List Int) : ∀ {e : Env}, e.fit n → e.le (m.foldl (fun e j => e.join (h j)) e) ∧ ∀ j ∈ m, (h j).le (m.foldl (fun e j => e.join (h j)) e) := by
  induction m with
  | nil => intro e he; exact ⟨Env.le_refl e, fun j hj => by cases hj⟩
  | cons j m ih =>
    intro e he
    have hj := Env.join_fit he (hh j)
    obtain ⟨h1, h2⟩ := ih hj
    have hf := fold_fit hh m hj
    refine ⟨Env.le_trans hj hf (Env.le_join_l he (hh j)) h1 he, fun k hk => ?_⟩
    rcases List.mem_cons.1 hk with rfl | hk
    · exact Env.le_trans hj hf (Env.le_join_r he (hh k)) h1 (hh k)
    · exact h2 k hk
theorem pred_le {f : Fun} {b j : Nat} {B : Blk} (hB : f.blks[b]? = some B) (hj : (j : Int) ∈ B.out) (hjl : j < f.blks.length) : (f.cat b B.ins.length).le (f.cin.getD j Option.none) := by
  rw [cin_fix hjl, cat_all hB]
  have hm : (b : Int) ∈ f.preds j := Fun.preds_mem.2 ⟨b, B, rfl, hB, hj⟩
  have := (fold_ge (n := f.wid) (h := fun j => pastL (f.cin.getD j.toNat Option.none) (f.code j.toNat)) (fun j => pastL_fit (f.cin_fit _)) (f.preds j) (f.cev_first j)).2 _ hm
  exact this
theorem start_le {f : Fun} (h : 0 < f.blks.length) : f.start.le (f.cin.getD 0 Option.none) := by
  rw [cin_fix h]
  have := (fold_ge (n := f.wid) (h := fun j => pastL (f.cin.getD j.toNat Option.none) (f.code j.toNat)) (fun j => pastL_fit (f.cin_fit _)) (f.preds (0 : Nat)) (f.cev_first 0)).1
  exact this
theorem once_mem {v : Int} : ∀ (l out : List Int), v ∈ out ∨ v ∈ l → v ∈ l.foldl addOnce out
  | [], out, h => by simpa using h
  | x :: l, out, h => by
    refine once_mem l (addOnce out x) ?_
    rcases h with h | h
    · left; unfold addOnce; split
      · exact h
      · exact List.mem_append_left _ h
    · rcases List.mem_cons.1 h with rfl | h
      · left; unfold addOnce; split
        · assumption
        · simp
      · exact .inr h
theorem ins_ab {p : Prg} {f : Fun} {x : Ins} (hok : FunOK p f) (h : p.insOK f x = true) : (-2147483648 ≤ x.c ∧ x.c ≤ 2147483647) ∧ (x.def < 0 ∨ (0 ≤ x.def ∧ x.def < (f.wid : Int) ∧ 0 ≤ x.a ∧ x.a < (f.wid : Int) ∧ 0 ≤ x.b ∧ x.b < (f.wid : Int))) := by
  obtain ⟨hu, hd⟩ := ins_vars h
  have h' := h
  simp only [Prg.insOK, Bool.and_eq_true] at h'
  have hox := h'.1.1
  have hp : x.okP := by simpa [Ins.ok] using hox
  obtain ⟨_, _, _, _, _, hc1, hc2, _, ha, hb, _, _, _, _, hbare⟩ := hp
  refine ⟨⟨hc1, hc2⟩, ?_⟩
  rw [hok.wid]
  rcases hd with hd | ⟨hd0, hdl⟩
  · left; omega
  · right
    have all : ∀ v ∈ x.all, v < f.vars := fun v hv => (hu v (by unfold Ins.uses; rw [if_pos hox]; exact once_mem _ _ (.inr hv))).2
    have ha' : x.a < f.vars := by
      cases hk : khas x.kind 97
      · have : x.bare.a = 0 := by rw [hbare]; rfl
        simp [Ins.bare, hk] at this
        omega
      · exact all _ (by unfold Ins.all; rw [hk]; simp)
    have hb' : x.b < f.vars := by
      cases hk : khas x.kind 98
      · have : x.bare.b = 0 := by rw [hbare]; rfl
        simp [Ins.bare, hk] at this
        omega
      · exact all _ (by unfold Ins.all; rw [hk]; simp)
    exact ⟨hd0, hdl, ha, ha', hb, hb'⟩
def IV (S : St) (v : AV) (l : List Int) : Prop := FSl intc 1 v l ∨ (Has intc 1 S v l ∧ Bel S v)
theorem IV.pict {S : St} {v : AV} {l : List Int} (h : IV S v l) : ∃ w, FSl intc 1 w l ∧ ∀ n, Vm.pict S [] (n + 2) v = some w := by
  rcases h with h | ⟨h, _⟩
  · exact ⟨v, h, fun n => pict_stab h.stab⟩
  · exact ⟨_, encF_sl, fun n => h.pict⟩
theorem IV.keep {S S' : St} {v : AV} {l : List Int} (h : IV S v l) (hn : S.next ≤ S'.next) (hk : ∀ q, q < S.next → S'.obj q = S.obj q) : IV S' v l := by
  rcases h with h | ⟨h, hb⟩
  · exact .inl h
  · exact .inr ⟨h.keep fun q ⟨len, hq⟩ => hk q (hb _ _ _ hq), hb.mono hn⟩
def beginL (par : Int) (w : List Int) (n : Nat) : List Int := (List.range n).map fun v : Nat => if (v : Int) < par ∧ v < w.length then wrap32 (w.getD v 0) else 0
theorem beginL_succ (par : Int) (w : List Int) (n : Nat) : beginL par w (n + 1) = beginL par w n ++ [if (n : Int) < par ∧ n < w.length then wrap32 (w.getD n 0) else 0] := by simp [beginL, List.range_succ]
theorem begin_tells (f : Fun) (w : List Int) : Tells f.wid (beginL f.par w f.wid) f.start := by
  refine ⟨by simp [beginL], startL f.par f.vars, rfl, startL_len _ _, startL_ok _ _, fun k u v hu hv => ?_⟩
  have hk : k < f.wid := by have := (List.getElem?_eq_some_iff.1 hu).1; simpa [beginL] using this
  have hv' : v = if (k : Int) < f.par then ⟨2, 0⟩ else ⟨1, 0⟩ := by
    simp [startL, show k < capN f.vars from hk] at hv
    exact hv.symm
  have hu' : u = if (k : Int) < f.par ∧ k < w.length then wrap32 (w.getD k 0) else 0 := by
    simp [beginL, hk] at hu
    rw [← hu]; simp
  by_cases hp : (k : Int) < f.par
  · rw [if_pos hp] at hv'
    subst hv'
    refine ⟨?_, .inr (.inl rfl)⟩
    rw [hu']
    split
    · exact wrap32_in _
    · omega
  · rw [if_neg hp] at hv'
    rw [if_neg fun h => hp h.1] at hu'
    subst hv'; subst hu'
    exact ⟨by omega, Val.le_refl _⟩
set_option maxHeartbeats 1000000 in
theorem law_ConstsTell (p : Prg) (i : Int) (ways : List Int) (wv : AV) (hw : FSl intc 1 wv ways) : Ret P (gl N) false 7 [encP p, .int .i64 i, wv] (.bool true) := by
  refine Ret.in c7 (by simp) ?_
  simp [k7]
  refine (awake20_ret).use (n := 9) (by rfl) rfl ?_
  simp
  refine (ref06_Few p).use (n := 9) (by simp [mapOpt, pict_stab p.funsS.stab]) (by simp [solids, AV.solid, p.funsS.solid]) ?_
  cases hfew : p.few
  · simp
    exact RK.eq rfl rfl
  have hp := Prg.few_fit hfew
  simp
  refine (prog_Sane p hp).use (n := 9) (by simp [mapOpt, pict_stab p.funsS.stab]) (by simp [solids, AV.solid, p.funsS.solid]) ?_
  cases hsane : p.sane
  · simp
    exact RK.eq rfl rfl
  simp
  by_cases h1 : i < 0
  · simp [h1]
    exact RK.stab rfl
  by_cases h2 : (p.funs.length : Int) ≤ i
  · simp [h1, h2, p.funsS.len]
    exact RK.stab rfl
  by_cases h3 : (60 : Int) < (ways.length : Int)
  · simp [h1, h2, h3, p.funsS.len, hw.len]
    exact RK.stab rfl
  obtain ⟨nI, rfl⟩ : ∃ n : Nat, i = (n : Int) := ⟨i.toNat, by omega⟩
  obtain ⟨f, hfi⟩ : ∃ f, p.funs[nI]? = some f := ⟨_, List.getElem?_eq_getElem (by omega)⟩
  have hf : p.fn (nI : Int) = some f := by
    unfold Prg.fn
    rw [if_pos ⟨by omega, hsane⟩]; exact hfi
  have hok := fn_ok hf
  have hl := hok.len
  have hwid := hok.wid
  have hv6 := hok.vars
  unfold Fun.varsOK at hv6
  simp [h2, h3, p.funsS.len, hw.len, p.funsS.idx hfi, show ¬ (p.funs.length ≤ nI) by omega]
  have hvw : f.vars = (f.wid : Int) := hwid.symm
  have hw6 : f.wid ≤ 6 := by omega
  refine W.whileI (fun (k : Nat) F S => k ≤ f.wid ∧ F 1 = .int .i64 nI ∧ F 2 = wv ∧ F 3 = .ptr 0 0 0 ∧ F 7 = .bool true ∧ F 8 = .ptr 1 0 0 ∧ F 10 = .int .i64 k ∧ LsI p f S ∧ Has intc 1 S (F 9) (beginL f.par ways k) ∧ Bel S (F 9) ∧ (∀ q c, F 9 = .sl 1 q 0 c → 2 ≤ q)) (fun k => f.wid - k) ?_ 0 _ _ ?_
  · rintro k F S ⟨hk, f1, f2, f3, f7, f8, f10, hS, h9, b9, n9⟩
    have hs0 := hS.s0
    have hs1 := hS.s1
    have hsn := hS.n
    simp only [func] at hs1
    simp [f8, f10, hs1, hvw]
    by_cases hlt : k < f.wid
    · have e4 := wrapS k (by omega)
      simp [hlt, f8, f10, hs1]
      refine gua_dec (fun g1 => ?_) (fun g1 => ?_)
      all_goals simp [g1, f2, hw.len, f10]
      all_goals try
        refine Bra.cut (fun F' S' => F' 1 = .int .i64 nI ∧ F' 2 = wv ∧ F' 3 = .ptr 0 0 0 ∧ F' 7 = .bool true ∧ F' 8 = .ptr 1 0 0 ∧ F' 9 = F 9 ∧ F' 10 = .int .i64 k ∧ F' 11 = .int .i64 (if (k : Int) < f.par ∧ k < ways.length then wrap32 (ways.getD k 0) else 0) ∧ S' = S) (bra_dec (fun g2 => ?_) (fun g2 => ?_)) ?_
      · obtain ⟨w, hwk⟩ : ∃ w, ways[k]? = some w := ⟨_, List.getElem?_eq_getElem g2⟩
        simp [f2, f10, hw.idx hwk, intc]
        refine (ref02_Wrap w).use (n := 9) ?_ rfl ?_ <;> simp
        simp [f1, f2, f3, f7, f8, f10, g1, g2]
        rw [(List.getElem?_eq_some_iff.1 hwk).2]
      · simp [f1, f2, f3, f7, f8, f10, g1, g2]
      · rintro F1 S1 ⟨f1, f2, f3, f7, f8, f9', f10, f11, hSS⟩
        rw [hSS]
        simp [f9', f11, f10]
        refine appV_own (e := intc) (x := if (k : Int) < f.par ∧ k < ways.length then wrap32 (ways.getD k 0) else 0) (h9.new b9) rfl (by simp [room, beginL]; omega) fun S' m1 m2 m3 => ?_
        simp at m2 m3
        have m3' : ∀ q, q < 2 → S'.obj q = S.obj q := fun q hq => by rw [m3 q (by omega) (fun len h => by have := n9 _ _ h; omega), if_neg (by omega)]
        simp [e4, f1, f2, f3, f7, f8]
        refine ⟨k + 1, by omega, by omega, by omega, hS.up m3' (by omega), ?_, Bel.sl (by omega), by omega⟩
        rw [beginL_succ]
        have hlb : (beginL f.par ways k).length = k := by simp [beginL]
        simpa [hlb] using m1
      · have z0 : (if (k : Int) < f.par ∧ k < ways.length then wrap32 (ways.getD k 0) else 0) = 0 := if_neg fun h => g1 h.1
        refine appV_own (e := intc) (x := 0) (h9.new b9) rfl (by simp [room, beginL]; omega) fun S' m1 m2 m3 => ?_
        simp at m2 m3
        have m3' : ∀ q, q < 2 → S'.obj q = S.obj q := fun q hq => by rw [m3 q (by omega) (fun len h => by have := n9 _ _ h; omega), if_neg (by omega)]
        simp [e4, f1, f2, f3, f7, f8]
        refine ⟨k + 1, by omega, by omega, by omega, hS.up m3' (by omega), ?_, Bel.sl (by omega), by omega⟩
        rw [beginL_succ, z0]
        have hlb : (beginL f.par ways k).length = k := by simp [beginL]
        simpa [hlb] using m1
    · have : k = f.wid := by omega
      subst this
      simp [f3]
      have hTs := begin_tells f ways
      have hIV : IV S (F 9) (beginL f.par ways f.wid) := .inr ⟨h9, b9⟩
      have hB0 : ∃ B, f.blks[0]? = some B ∧ B.on = true := by
        obtain ⟨_, _, h0, _⟩ := hok.blks
        have hlt0 := hl.1
        refine ⟨f.blks[0], List.getElem?_eq_getElem hlt0, ?_⟩
        simpa [Fun.onAt, List.getElem?_eq_getElem hlt0] using h0
      generalize beginL f.par ways f.wid = l0 at *
      refine W.whileI (fun (n : Nat) F S => n ≤ ways.length ∧ F 1 = .int .i64 nI ∧ F 2 = wv ∧ F 3 = .ptr 0 0 0 ∧ F 7 = .bool true ∧ F 8 = .ptr 1 0 0 ∧ F 13 = .int .i64 n ∧ LsI p f S ∧ ∃ (b : Nat) (B : Blk) (l : List Int), F 12 = .int .i64 b ∧ f.blks[b]? = some B ∧ B.on = true ∧ IV S (F 9) l ∧ Tells f.wid l (f.cin.getD b Option.none)) (fun n => ways.length - n) ?_ 0 _ _ ?_
      · rintro n F S ⟨hn, f1, f2, f3, f7, f8, f13, hS, b, B, l, f12, hB, hon, hIV, hT⟩
        have hs0 := hS.s0
        have hs1 := hS.s1
        have hsn := hS.n
        simp only [func] at hs1
        simp [f2, f13, hw.len]
        by_cases hnl : n < ways.length
        · by_cases hn12 : n < 12
          · have hbl := (List.getElem?_eq_some_iff.1 hB).1
            have hBk := hok.blk (List.mem_of_getElem? hB)
            have hBl : B.ins.length ≤ 16 := hBk.2.2.2.1
            have hBo := hok.out B (List.mem_of_getElem? hB)
            have e7 := wrapS n (by omega)
            obtain ⟨wn, hwn⟩ : ∃ w, ways[n]? = some w := ⟨_, List.getElem?_eq_getElem hnl⟩
            simp [hnl, show (n : Int) < 12 by omega, f13, f8, f12, hs1, show ¬ 1 = S.next by omega, f.blksS.idx hB]
            refine W.whileI (fun (k : Nat) F' S' => k ≤ B.ins.length ∧ F' 1 = .int .i64 nI ∧ F' 2 = wv ∧ F' 3 = .ptr 0 0 0 ∧ F' 7 = .bool true ∧ F' 8 = .ptr 1 0 0 ∧ F' 12 = .int .i64 b ∧ F' 13 = .int .i64 n ∧ F' 14 = .ptr S.next 0 0 ∧ F' 15 = .int .i64 k ∧ LsI p f S' ∧ S.next < S'.next ∧ S'.obj S.next = some (.row 3 [blkc B]) ∧ ∃ l, IV S' (F' 9) l ∧ Tells f.wid l (f.cat b k)) (fun k => B.ins.length - k) ?_ 0 _ _ ?_
            · clear hs0 hs1
              rintro k F S1 ⟨hk, f1, f2, f3, f7, f8, f12, f13, f14, f15, hS1, hn1, sA, l, hIV, hT⟩
              have hs0 := hS1.s0
              obtain ⟨w, hw1, hw2⟩ := hIV.pict
              have hll : l.length < 2 ^ 40 := by rw [hT.1]; omega
              simp only [blkc] at sA
              simp [f14, f15, sA, B.insS.len]
              by_cases hltk : k < B.ins.length
              · obtain ⟨x, hx⟩ : ∃ x, B.ins[k]? = some x := ⟨_, List.getElem?_eq_getElem hltk⟩
                have e5 := wrapS k (by omega)
                have hcat : p.cat nI b k = f.cat b k := cat_blk hf hB hon (by omega)
                have hcs := cat_succ hB hx
                obtain ⟨hxc, hxd⟩ := ins_ab hok (hBk.2.2.2.2 x (List.mem_of_getElem? hx))
                simp [hltk, f1, f3, f12, f15, hs0]
                refine (consts_At p nI b k hp).use (n := 9) (by simp [mapOpt, pict_stab p.funsS.stab]) (by simp [solids, AV.solid, p.funsS.solid]) ?_
                rw [hcat]
                simp
                refine (law20_below l w hw1 hll (f.cat b k) hT.isSome fun j u hu => hT.leq j u hu).use (n := 9) (by simp [mapOpt, hw2]) rfl ?_
                simp
                refine Dra.auto [] mix ?_ ?_
                · kernel_rfl
                simp [classes, f2, f13, f14, f15, sA, B.insS.idx hx, hw.idx hwn, intc]
                refine (law20_step l w hw1 x wn (by rw [hT.1]; omega) (by rw [hT.1]; exact hxd)).b (n := 9) (by simp [mapOpt, hw2]) rfl ?_
                simp [f1, f2, f3, f7, f8, f12, f13, f14, f15, e5, sA]
                exact ⟨k + 1, by omega, by omega, by omega, hS1, hn1, stepL l x wn, .inl .mk, by rw [hcs]; exact hT.step hxc hxd⟩
              · have : k = B.ins.length := by omega
                subst this
                have hcat : p.cat nI b (B.ins.length : Nat) = f.cat b B.ins.length := cat_blk hf hB hon (Nat.le_refl _)
                simp [f1, f3, f12, f14, hs0, sA, B.insS.len]
                refine (consts_At p nI b (B.ins.length : Nat) hp).use (n := 9) (by simp [mapOpt, pict_stab p.funsS.stab]) (by simp [solids, AV.solid, p.funsS.solid]) ?_
                rw [hcat]
                simp
                refine (law20_below l w hw1 hll (f.cat b B.ins.length) hT.isSome fun j u hu => hT.leq j u hu).use (n := 9) (by simp [mapOpt, hw2]) rfl ?_
                simp [f14, sA, B.outS.len]
                by_cases ho0 : B.out = []
                · simp [ho0, f7]
                  exact RK.stab rfl
                · obtain ⟨a, ha⟩ := low_and wn
                  simp [ho0]
                  refine Dra.auto [] mix ?_ ?_
                  · kernel_rfl
                  simp [classes, f2, f13, f14, sA, hw.idx hwn, intc, B.outS.len]
                  have hop : 0 < B.out.length := List.length_pos_iff.2 ho0
                  have hr : (iand IntKind.i64 wn 65535).tmod (B.out.length : Int) = ((a % B.out.length : Nat) : Int) := by rw [ha]; rfl
                  obtain ⟨jj, hj⟩ : ∃ j, B.out[a % B.out.length]? = some j := ⟨_, List.getElem?_eq_getElem (Nat.mod_lt _ hop)⟩
                  obtain ⟨hj0, hjn, b2, hb2, hon2⟩ := live_lt (hBk.2.2.1 jj (List.mem_of_getElem? hj))
                  obtain ⟨jn2, rfl⟩ : ∃ n : Nat, jj = (n : Int) := ⟨jj.toNat, by omega⟩
                  simp only [Int.toNat_natCast] at hb2
                  have hidx := B.outS.idx hj
                  rw [show ((a % B.out.length : Nat) : Int) = (a : Int) % (B.out.length : Int) from rfl] at hidx
                  have hTn := hT.le (f.cin_fit jn2) (pred_le hB (List.mem_of_getElem? hj) (by omega))
                  rw [hr]
                  simp [ho0, hidx, intc, f1, f2, f3, f7, f8, f13, e7]
                  exact ⟨n + 1, by omega, by omega, by omega, hS1, jn2, rfl, b2, hb2, hon2, l, hIV, hTn⟩
            · simp [f1, f2, f3, f7, f8, f12, f13]
              refine ⟨hS.up (fun q hq => by simp [show ¬ q = S.next by omega]) (by simp), l, hIV.keep (by simp) (fun q hq => by simp [show ¬ q = S.next by omega]), ?_⟩
              rw [cat_zero]; exact hT
          · simp [hnl, show ¬ (n : Int) < 12 by omega, f13, f7]
            exact RK.stab rfl
        · simp [hnl, f7]
          exact RK.stab rfl
      · obtain ⟨B, hB, hon⟩ := hB0
        simp [f1, f2, f3, f7, f8]
        exact ⟨hS, 0, rfl, B, hB, hon, l0, hIV, hTs.le (f.cin_fit 0) (start_le hl.1)⟩
  · simp
    exact ⟨⟨by simp, by simp, by simp⟩, by simp [beginL]; exact Has.nil, Bel.nil⟩
end Go.Proofs.YtchkknkjhiaooaaGreatDoor.Vm
