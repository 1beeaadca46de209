/- A part of the proof: Rp Sc. -/
import Derived.Test.YtchkknkjhiaooaaGreatDoorQc0
set_option linter.unusedVariables false
set_option linter.unusedSimpArgs false
set_option linter.constructorNameAsVariable false
namespace Go.Proofs.YtchkknkjhiaooaaGreatDoor.Vm
open Go Go.RowKit
variable {N : Nat} {g : Glob}
theorem ref02_Sane (v : Val) : Ret P g false 269 [encV v] (.bool v.ok) := by
  refine Ret.in c269 (by simp) ?_
  simp [k269]
  refine bra_dec (fun h1 => ?_) (fun h1 => ?_) <;> simp [h1]
  · refine gua_dec (fun h2 => ?_) (fun h2 => ?_) <;> simp [h2] <;> exact RK.eq (by simp [Val.ok, h1, h2]) rfl
  · refine gua_decF (fun h2 => ?_) (fun h2 => ?_) <;> simp [h2]
    · refine gua_dec (fun h3 => ?_) (fun h3 => ?_) <;> simp [h3] <;> exact RK.eq (by simp [Val.ok, h1, h2, h3]) rfl
    · exact RK.eq (by simp [Val.ok, h1, h2]) rfl
theorem ref02_sane (v : Val) : Ret P g false 205 [encV v] (encV v.sane) := by
  refine Ret.in c205 (by simp) ?_
  simp [k205]
  refine (ref02_Sane v).use (n := 9) ?_ rfl ?_ <;> simp
  refine bra_ndec' (fun h1 => ?_) (fun h1 => ?_) <;> simp [h1]
  · exact RK.aggEq (by simp [Val.sane, h1]) rfl
  · exact RK.aggEq (by simp [Val.sane, h1]) rfl
def Val.rleq (a b : Val) : Bool := decide (a.sane.k = 0 ∨ b.sane.k = 2 ∨ a.sane = b.sane)
theorem ref02_Leq (a b : Val) : Ret P g false 204 [encV a, encV b] (.bool (a.rleq b)) := by
  refine Ret.in c204 (by simp) ?_
  simp [k204]
  refine (ref02_sane a).use (n := 9) ?_ rfl ?_ <;> simp
  refine (ref02_sane b).use (n := 9) ?_ rfl ?_ <;> simp
  have hc := val_cells_eq a.sane b.sane
  simp at hc
  refine gua_decF (fun h1 => ?_) (fun h1 => ?_) <;> simp [h1]
  · refine gua_decF (fun h2 => ?_) (fun h2 => ?_) <;> simp [h2]
    · exact RK.eq (by rw [hc]; simp [Val.rleq, h1, h2]) rfl
    · exact RK.eq (by simp [Val.rleq, h2]) rfl
  · exact RK.eq (by simp [Val.rleq, h1]) rfl
theorem rjoin_eq (a b : Val) : a.join b = if a.rleq b = true then b.sane else if b.rleq a = true then a.sane else ⟨2, 0⟩ := by
  have ha := a.sane_ok
  have hb := b.sane_ok
  unfold Val.join Val.rleq
  generalize a.sane = x at *
  generalize b.sane = y at *
  simp only [decide_eq_true_eq]
  rcases Val.cases ha with rfl | rfl | ⟨c, rfl⟩ <;> rcases Val.cases hb with rfl | rfl | ⟨d, rfl⟩ <;> simp
  by_cases h : c = d
  · simp [h]
  · have : ¬ d = c := fun e => h e.symm
    simp [h, this]
theorem ref02_Join (a b : Val) : Ret P g false 141 [encV a, encV b] (encV (a.join b)) := by
  refine Ret.in c141 (by simp) ?_
  have he := rjoin_eq a b
  simp [k141]
  refine (ref02_Leq a b).use (n := 9) ?_ rfl ?_ <;> simp
  cases h1 : a.rleq b
  · simp
    refine (ref02_Leq b a).use (n := 9) ?_ rfl ?_ <;> simp
    cases h2 : b.rleq a
    · simp
      exact RK.aggEq (by rw [he]; simp [h1, h2]) rfl
    · simp
      refine (ref02_sane a).use (n := 9) ?_ rfl ?_ <;> simp
      exact RK.aggEq (by rw [he]; simp [h1, h2]) rfl
  · simp
    refine (ref02_sane b).use (n := 9) ?_ rfl ?_ <;> simp
    exact RK.aggEq (by rw [he]; simp [h1]) rfl
theorem ref02_Of (n : Int) : Ret P g false 94 [.int .i64 n] (encV ⟨1, wrap32 n⟩) := by
  refine Ret.in c94 (by simp) ?_
  simp [k94]
  refine (ref02_Wrap n).use (n := 9) ?_ rfl ?_ <;> simp
  exact RK.agg (by simp [AV.stab])
theorem ref04_val (v : Val) : Ret P g false 144 [encV v] (encV v.sane) := by
  refine Ret.in c144 (by simp) ?_
  simp [k144]
  refine (ref02_Join v ⟨0, 0⟩).use (n := 9) ?_ rfl ?_ <;> simp
  exact RK.aggEq (by rw [Val.join_zero]) (by simp [AV.stab])
theorem OwnB.in {α : Type} {e : α → List AV} [PlainE e] {sz f n rs c xs} {t : Bool} {l : List α} (h : Fun' P f n rs c) (hn : decide (xs.length ≤ n) = true) (hv : vc P g c (entry xs) St.empty (KBody rs (fun v S => ∃ w, v = .agg [.bool t, w] ∧ Has e sz S w l))) : Own P g f xs (.agg [.bool t, encO sz l]) (St.ofL (objO e sz l)) := by
  refine Own.ofRenE h.call ((h.in (by simpa using hn) hv).mono fun v S hk => ?_)
  obtain ⟨w, rfl, hk⟩ := hk
  rcases hk with ⟨rfl, rfl⟩ | ⟨o, rfl, ho, hne⟩
  · exact ⟨[], by simp, by simp [encO], by simp [objO]⟩
  · exact ⟨[o], by simp, by simp [encO, hne], by simp [objO, hne, ho]⟩
theorem ref04_Flats (n : Int) (v : Val) : Own P g 93 [.int .i64 n, encV v] (.agg [.bool true, encO 2 (List.replicate (capN n) v.sane)]) (St.ofL (objO valc 2 (List.replicate (capN n) v.sane))) := by
  refine OwnB.in c93 (by simp) ?_
  have hm : ∀ a : Nat, (a : Int) < (if 64 < n then 64 else n) ↔ a < capN n := fun a => by unfold capN; split <;> omega
  have hc : capN n ≤ 64 := by unfold capN; omega
  simp [k93]
  refine W.whileI (fun (a : Nat) F S => a ≤ capN n ∧ F 0 = .int .i64 n ∧ F 3 = .ptr 0 0 0 ∧ F 4 = .ptr 1 0 0 ∧ F 5 = .ptr 2 0 0 ∧ F 6 = .int .i64 a ∧ 2 < S.next ∧ S.obj 0 = some (.row 2 [[.int .i64 v.k, .int .i64 v.c]]) ∧ S.obj 1 = some (.row 2 [[.bool false, .nilsl]]) ∧ ∃ w, S.obj 2 = some (.row 2 [[.bool true, w]]) ∧ w.one = true ∧ Has valc 2 S w (List.replicate a v.sane) ∧ Bel S w ∧ (∀ q c, w = .sl 2 q 0 c → 3 ≤ q)) (fun a => capN n - a) ?_ 0 _ _ ?_
  · rintro a F S ⟨ha, f0, f3, f4, f5, f6, hn, s0, s1, w, s2, ow, hw, bw, nw⟩
    have hma := hm a
    simp [f0, f6]
    by_cases hlt : a < capN n
    · have e4 := wrapS a (by omega)
      have h1 := hma.2 hlt
      simp [h1]
      refine Dra.auto [] mix ?_ ?_
      · kernel_rfl
      simp [classes, f3, f5, s0, s2]
      refine (ref04_val v).b (n := 9) (by simp [mapOpt]) rfl ?_
      simp
      refine appV_own (e := valc) (x := v.sane) (hw.new bw) rfl (by simp [room]; omega) fun S1 m1 m2 m3 => ?_
      simp at m2 m3
      have o1 : ∀ q, q < 3 → S1.obj q = S.obj q := fun q hq => by
        rw [m3 q (by omega) fun len h => by have := nw _ _ h; omega, if_neg (by omega)]
      simp [f0, f3, f4, f5, f6, e4, o1 2 (by omega), s2]
      refine ⟨a + 1, by omega, by omega, by omega, by omega, by rw [o1 0 (by omega)]; exact s0, by rw [o1 1 (by omega)]; exact s1, ?_, Bel.sl (by simp; omega), by omega⟩
      rw [List.replicate_succ']
      refine Has.keep (S := S1) (by simpa using m1) fun q ⟨len, hq⟩ => ?_
      cases hq
      simp [show ¬ S.next + 1 = 2 by omega]
    · have : a = capN n := by omega
      subst this
      have h1 : ¬ ((capN n : Int) < (if 64 < n then 64 else n)) := fun h => hlt (hma.1 h)
      simp [h1, f4, f5, s1, s2, ow]
      exact hw.keep fun q ⟨len, hq⟩ => by have := nw _ _ hq; simp [show ¬ q = 1 by omega]
  · simp
    exact ⟨Has.nil, Bel.nil⟩
theorem ref20_Start (f : Fun) : Ret P g false 44 [encFun f] (.agg (envT (some (startL f.par f.vars)))) := by
  have hc : capN f.vars ≤ 64 := by unfold capN; omega
  have hsl := startL_len f.par f.vars
  have hget : ∀ k, k < capN f.vars → (startL f.par f.vars)[k]? = some (if (k : Int) < f.par then ⟨2, 0⟩ else ⟨1, 0⟩) := fun k hk => by simp [startL, hk]
  have hw : Val.sane ⟨1, wrap32 0⟩ = ⟨1, 0⟩ := rfl
  refine Ret.in c44 (by simp) ?_
  simp [k44]
  refine Dra.auto [] mix ?_ ?_
  · kernel_rfl
  simp [classes]
  refine (ref02_Of 0).b (n := 9) ?_ rfl ?_ <;> simp
  refine (ref04_Flats f.vars ⟨1, wrap32 0⟩).b' (n := 9) ?_ (by unfold objO; split <;> simp) ?_ <;> simp
  rw [hw]
  generalize hm : capN f.vars = m at *
  by_cases h0 : m = 0
  · subst h0
    have hsn : startL f.par f.vars = [] := List.length_eq_zero_iff.1 hsl
    simp [encO, objO]
    refine W.whileI (fun (a : Nat) F S => F 1 = .ptr 0 0 0 ∧ F 2 = .ptr 1 0 0 ∧ F 3 = .ptr 2 0 0 ∧ F 4 = .int .i64 0 ∧ S.obj 0 = some (.row 3 [func f]) ∧ S.obj 1 = some (.row 2 [[.bool false, .nilsl]]) ∧ S.obj 2 = some (.row 2 [[.bool true, .nilsl]])) (fun a => a) ?_ 0 _ _ ?_
    · rintro a F S ⟨f1, f2, f3, f4, s0, s1, s2⟩
      simp [f1, f4, s0]
      refine gua_dec (fun h1 => ?_) (fun h1 => ?_) <;> simp [h1, f3, f4, s2, f2, s1]
      · exact ⟨9, by rw [hsn]; simp [mapOpt, envT, Env.vals, encF]⟩
      · exact ⟨9, by rw [hsn]; simp [mapOpt, envT, Env.vals, encF]⟩
    · simp
  · have hne : List.replicate m (⟨1, 0⟩ : Val) ≠ [] := by simp [h0]
    simp [encO, objO, hne, h0]
    refine W.whileI (fun (a : Nat) F S => a ≤ m ∧ (a = 0 ∨ ((a : Int) ≤ f.par)) ∧ F 1 = .ptr 0 0 0 ∧ F 2 = .ptr 1 0 0 ∧ F 3 = .ptr 3 0 0 ∧ F 4 = .int .i64 a ∧ S.obj 0 = some (.row 3 [func f]) ∧ S.obj 1 = some (.row 2 [[.bool false, .nilsl]]) ∧ S.obj 3 = some (.row 2 [[.bool true, .sl 2 2 0 m]]) ∧ 3 < S.next ∧
      ∃ o : List Val, o.length = m ∧ o.take a = (startL f.par f.vars).take a ∧ (∀ k, a ≤ k → k < m → o[k]? = some ⟨1, 0⟩) ∧ S.obj 2 = some (.row 2 (els valc o))) (fun a => m - a) ?_ 0 _ _ ?_
    · rintro a F S ⟨ha, hap, f1, f2, f3, f4, s0, s1, s3, hn, o, ho, hot, hod, s2⟩
      have fin : ¬ ((a : Int) < f.par ∧ a < m) → RK (.agg (envT (some (startL f.par f.vars)))) (.agg [.bool true, .sl 2 2 0 m]) (S.set 1 (.row 2 [[.bool true, .sl 2 2 0 m]])) := fun hno => by
        have hoR : o = startL f.par f.vars := by
          apply List.ext_getElem?
          intro k
          by_cases hk : k < a
          · have h1 : (o.take a)[k]? = ((startL f.par f.vars).take a)[k]? := by rw [hot]
            rw [List.getElem?_take_of_lt hk, List.getElem?_take_of_lt hk] at h1
            exact h1
          · by_cases hk2 : k < m
            · rw [hod k (by omega) hk2, hget k hk2, if_neg (by omega)]
            · rw [List.getElem?_eq_none (by omega), List.getElem?_eq_none (by omega)]
        rw [hoR] at s2
        have hp := pict_rowP (e := valc) (sz := 2) (S := S.set 1 (.row 2 [[.bool true, .sl 2 2 0 m]])) (o := 2) (n := 6) (by simp [s2]) hsl
        have hne2 : startL f.par f.vars ≠ [] := fun e => by rw [e] at hsl; simp at hsl; omega
        exact ⟨9, by simp only [pict_aggs, mapOpt, pict_bool, hp]; simp [envT, Env.vals, encF, hne2]⟩
      simp [f1, f4, s0]
      refine gua_dec (fun h1 => ?_) (fun h1 => ?_) <;> simp [h1, f3, f4, s3]
      · by_cases hlt : a < m
        · have e4 := wrapS a (by omega)
          simp [hlt]
          simp [f1, f2, f3, f4, s3, ix_sl hlt, s2, hod a (by omega) hlt, e4]
          refine ⟨a + 1, by omega, by omega, by omega, by omega, by simpa using s0, by simpa using s1, hn, o.set a ⟨2, 0⟩, by simp [ho], ?_, fun k hk1 hk2 => ?_, by rw [← els_set]; rfl⟩
          · rw [set_take_succ (by omega), hot, take_succ_get (hget a hlt), if_pos h1]
          · rw [List.getElem?_set_ne (by omega)]; exact hod k (by omega) hk2
        · simp [f3, s3, hlt, f2, s1]
          exact fin (by omega)
      · simp [f3, s3, f2, s1]
        exact fin (by omega)
    · simp
      exact ⟨List.replicate m ⟨1, 0⟩, by simp, fun k hk => by simp [hk], rfl⟩
end Go.Proofs.YtchkknkjhiaooaaGreatDoor.Vm
namespace Go.Proofs.YtchkknkjhiaooaaGreatDoor.Vm
open Go Go.RowKit
variable {N : Nat} {g : Glob}
theorem law_ConstsStart (ar vr : Int) : Ret P (gl N) false 6 [.int .i64 ar, .int .i64 vr] (.bool true) := by
  refine Ret.in c6 (by simp) ?_
  have hsm : Env.small (some (startL ar vr)) := fun l h => by
    cases h
    rw [startL_len]
    unfold capN; omega
  have h1 := consts_Start (g := gl N) ⟨ar, vr, [], true⟩
  have h2 := ref20_Start (g := gl N) ⟨ar, vr, [], true⟩
  have hb : (⟨ar, vr, [], true⟩ : Fun).blksV = .nilsl := rfl
  simp only [encFun, func, hb] at h1 h2
  simp [k6]
  refine (awake20_ret).use (n := 9) (by rfl) rfl ?_
  simp
  refine Dra.auto [] mix ?_ ?_
  · kernel_rfl
  simp [classes]
  refine h1.b (n := 9) (by simp [mapOpt]) (by simp [solids, AV.solid]) ?_
  simp
  refine (theirFlat_ret (some (startL ar vr)) hsm).b (n := 9) (by simp [mapOpt]) (by simp [solids, AV.solid]) ?_
  simp
  refine h2.b (n := 9) (by simp [mapOpt]) (by simp [solids, AV.solid]) ?_
  simp
  refine (sameT (some (startL ar vr)) (some (startL ar vr)) hsm).b (n := 9) (by simp [mapOpt, envT_pict]) rfl ?_
  simp
  exact RK.eq rfl rfl
end Go.Proofs.YtchkknkjhiaooaaGreatDoor.Vm
