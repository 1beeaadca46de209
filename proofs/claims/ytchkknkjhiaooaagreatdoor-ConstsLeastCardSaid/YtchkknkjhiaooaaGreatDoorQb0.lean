/- A part of the proof: Sb. -/
import Derived.Test.YtchkknkjhiaooaaGreatDoorQ32
set_option linter.unusedVariables false
set_option linter.unusedSimpArgs false
set_option linter.constructorNameAsVariable false
namespace Go.Proofs.YtchkknkjhiaooaaGreatDoor.Vm
open Go Go.RowKit
variable {N : Nat} {g : Glob}
set_option maxHeartbeats 1000000 in
theorem law_ConstsLeast (p : Prg) (i : Int) : Ret P (gl N) false 8 [encP p, .int .i64 i] (.bool true) := by
  refine Ret.in c8 (by simp) ?_
  simp [k8]
  refine (awake20_ret).use (n := 9) (by rfl) rfl ?_
  simp
  refine (ref06_Few p).use (n := 9) (by simp [mapOpt, pict_stab p.funsS.stab]) (by simp [solids, AV.solid, p.funsS.solid]) ?_
  cases hfew : p.few
  · simp
    exact RK.eq rfl rfl
  have hp := Prg.few_fit hfew
  simp
  refine (prog_Sane p hp).use (n := 9) (by simp [mapOpt, pict_stab p.funsS.stab]) (by simp [solids, AV.solid, p.funsS.solid]) ?_
  cases hsane : p.sane
  · simp
    exact RK.eq rfl rfl
  simp
  refine gua_decF (fun h1 => ?_) (fun h1 => ?_) <;> simp [h1, p.funsS.len]
  · refine bra_dec (fun h2 => ?_) (fun h2 => ?_) <;> simp [h2]
    · exact RK.eq rfl rfl
    obtain ⟨nI, rfl⟩ : ∃ n : Nat, i = (n : Int) := ⟨i.toNat, by omega⟩
    obtain ⟨f, hfi⟩ : ∃ f, p.funs[nI]? = some f := ⟨_, List.getElem?_eq_getElem (by omega)⟩
    have hf : p.fn (nI : Int) = some f := by
      unfold Prg.fn
      rw [if_pos ⟨by omega, hsane⟩]; exact hfi
    have hok := fn_ok hf
    have hl := hok.len
    have hkn : p.known (nI : Int) = sorted f.known := by unfold Prg.known; rw [hf]
    have hkl := f.knownTo_len hok f.blks.length
    have hsl : (sorted f.known).length = f.known.length := sorted_len _
    have hkl2 : f.known.length ≤ f.blks.length * 16 := hkl
    have hkS : FSl intc 1 (encF intc 1 (sorted f.known)) (sorted f.known) := encF_sl
    simp [p.funsS.idx hfi]
    refine (consts_Known p nI hp).ret.use (n := 9) (by simp [mapOpt, pict_stab p.funsS.stab]) rfl ?_
    rw [hkn]
    simp
    refine W.whileI (fun (a : Nat) F S => a ≤ f.blks.length ∧ F 1 = .int .i64 nI ∧ F 2 = .ptr 0 0 0 ∧ F 5 = .bool true ∧ F 6 = .ptr 1 0 0 ∧ F 7 = encF intc 1 (sorted f.known) ∧ F 8 = .int .i64 (f.knownTo a).length ∧ F 9 = .int .i64 a ∧ LsI p f S) (fun a => f.blks.length - a) ?_ 0 _ _ ?_
    · rintro a F S ⟨ha, f1, f2, f5, f6, f7, f8, f9, hS⟩
      have hs0 := hS.s0
      have hs1 := hS.s1
      have hsn := hS.n
      simp only [func] at hs1
      simp [f6, f9, hs1]
      by_cases hlt : a < f.blks.length
      · obtain ⟨B, hB⟩ : ∃ b, f.blks[a]? = some b := ⟨_, List.getElem?_eq_getElem hlt⟩
        have hBk := hok.blk (List.mem_of_getElem? hB)
        have hBl : B.ins.length ≤ 16 := hBk.2.2.2.1
        have e4 := wrapS a (by omega)
        have z0 : ¬ 0 = S.next := by omega
        have z1 : ¬ 1 = S.next := by omega
        simp [hlt, f9]
        refine Bra.cut (fun F' S' => F' 1 = .int .i64 nI ∧ F' 2 = .ptr 0 0 0 ∧ F' 5 = .bool true ∧ F' 6 = .ptr 1 0 0 ∧ F' 7 = encF intc 1 (sorted f.known) ∧ F' 8 = .int .i64 (f.knownTo a).length ∧ F' 9 = .int .i64 a ∧ F' 10 = .ptr S.next 0 0 ∧ LsI p f S' ∧ S.next < S'.next ∧ S'.obj S.next = some (.row 2 [envc (f.cevTo f.cin a [])])) (bra_dec (fun h => ?_) (fun h => ?_)) ?_
        · simp [f6, hs1, z1]
          refine (consts_Start f).use (n := 9) (by simp [mapOpt, pict_stab f.blksS.stab]) (by simp [solids, AV.solid, f.blksS.solid]) ?_
          simp [f1, f2, f5, f6, f7, f8, f9]
          refine ⟨hS.up (fun q hq => by simp [show ¬ q = S.next by omega]) (by simp), ?_⟩
          simp [Fun.cevTo, h, Fun.start]
        · simp [f1, f2, f5, f6, f7, f8, f9]
          refine ⟨hS.up (fun q hq => by simp [show ¬ q = S.next by omega]) (by simp), ?_⟩
          simp [Fun.cevTo, h]
        · clear hs0 hs1
          rintro F S1 ⟨f1, f2, f5, f6, f7, f8, f9, f10, hS1, hn1, s10⟩
          generalize hA : S.next = A at *
          have hs0 := hS1.s0
          simp [f1, f2, f9, hs0]
          refine (prog_Preds p nI a hp).ret.use (n := 9) (by simp [mapOpt, pict_stab p.funsS.stab]) rfl ?_
          have hpr : p.preds (nI : Int) a = f.preds a := by simp [Prg.preds, hf]
          rw [hpr]
          have hpS : FSl intc 1 (encF intc 1 (f.preds a)) (f.preds a) := encF_sl
          have hpl : (f.preds (a : Int)).length ≤ f.blks.length := f.predsTo_len _ _
          simp
          refine W.whileI (fun (k : Nat) F' S' => k ≤ (f.preds a).length ∧ F' 1 = .int .i64 nI ∧ F' 2 = .ptr 0 0 0 ∧ F' 5 = .bool true ∧ F' 6 = .ptr 1 0 0 ∧ F' 7 = encF intc 1 (sorted f.known) ∧ F' 8 = .int .i64 (f.knownTo a).length ∧ F' 9 = .int .i64 a ∧ F' 10 = .ptr A 0 0 ∧ F' 11 = encF intc 1 (f.preds a) ∧ F' 12 = .int .i64 k ∧ LsI p f S' ∧ A < S'.next ∧ S'.obj A = some (.row 2 [envc (f.cevTo f.cin a ((f.preds a).take k))])) (fun k => (f.preds a).length - k) ?_ 0 _ _ ?_
          · rintro k F S2 ⟨hk, f1, f2, f5, f6, f7, f8, f9, f10, f11, f12, hS2, hn2, s10⟩
            have hs0 := hS2.s0
            have hs1 := hS2.s1
            simp only [func] at hs1
            simp [f11, f12, hpS.len]
            by_cases hltk : k < (f.preds a).length
            · obtain ⟨j, hj⟩ : ∃ j, (f.preds a)[k]? = some j := ⟨_, List.getElem?_eq_getElem hltk⟩
              obtain ⟨jn, y, rfl, hy, hyon⟩ := pred_on hok (List.mem_of_getElem? hj)
              have e5 := wrapS k (by omega)
              have hcat : p.cat nI jn (y.ins.length : Nat) = pastL (f.cin.getD jn Option.none) (f.code jn) := by rw [cat_blk hf hy hyon (Nat.le_refl _), cat_all hy]
              have hst : f.cevTo f.cin a ((f.preds a).take (k + 1)) = (f.cevTo f.cin a ((f.preds a).take k)).join (pastL (f.cin.getD jn Option.none) (f.code jn)) := by
                unfold Fun.cevTo
                rw [foldl_take_succ _ _ _ _ _ hj]
                simp
              have hf1 := f.cevTo_fit f.cin_least.fit.ok a ((f.preds a).take k)
              have hf2 : (pastL (f.cin.getD jn Option.none) (f.code jn)).fit f.wid := pastL_fit (f.cin_fit jn)
              simp [hltk]
              refine Dra.auto [] mix ?_ ?_
              · kernel_rfl
              simp [classes, f1, f2, f6, f10, f11, f12, hs0, hs1, s10, hpS.idx hj, intc, f.blksS.idx hy, y.insS.len]
              refine (consts_At p nI jn (y.ins.length : Nat) hp).b (n := 9) (by simp [mapOpt, pict_stab p.funsS.stab]) (by simp [solids, AV.solid, p.funsS.solid]) ?_
              rw [hcat]
              simp
              refine (env_JoinFlat _ _ (hf1.small f.wid_lt) (hf2.small f.wid_lt)).b (n := 9) (by simp [mapOpt]) (by simp [solids, AV.solid]) ?_
              simp [f1, f2, f5, f6, f7, f8, f9, f10, f11, f12, e5, s10]
              refine ⟨k + 1, by omega, by omega, by omega, hS2.up (fun q hq => ?_) (by simp), hn2, by rw [hst]; simp⟩
              have : ¬ q = A := by omega
              simp [this]
            · have : k = (f.preds a).length := by omega
              subst this
              rw [List.take_length] at s10
              have hcv : f.cevTo f.cin a (f.preds a) = f.cin.getD a Option.none := (cin_fix hlt).symm
              rw [hcv] at s10
              have hsm := (f.cin_fit a).small f.wid_lt
              have hc0 : B.on = true → p.cat nI a 0 = f.cin.getD a Option.none := fun hon => by
                have := cat_blk hf hB hon (k := 0) (by omega)
                rw [← cat_zero]; exact this
              generalize f.cin.getD a Option.none = e0 at *
              simp
              refine Dra.auto [] mix ?_ ?_
              · kernel_rfl
              simp [classes, f6, f9, hs1, f.blksS.idx hB]
              have main : ∀ (F3 : AFrame) (S3 : St) (Q : Res → Prop) (c : VCode), True := fun _ _ _ _ => trivial
              clear main
              have code : B.on = true ∨ (B.on = false ∧ B.ins = []) := by
                cases hon : B.on
                · exact .inr ⟨rfl, (hBk.1 hon).1⟩
                · exact .inl rfl
              rcases code with hon | ⟨hon, hno⟩
              · simp [hon, f10, s10]
                refine (theirFlat_ret e0 hsm).b (n := 9) (by simp [mapOpt]) (by simp [solids, AV.solid]) ?_
                simp [f1, f2, f9, hs0]
                refine (consts_At p nI a 0 hp).b (n := 9) (by simp [mapOpt, pict_stab p.funsS.stab]) (by simp [solids, AV.solid, p.funsS.solid]) ?_
                rw [hc0 hon]
                simp
                refine (theirFlat_ret e0 hsm).b (n := 9) (by simp [mapOpt]) (by simp [solids, AV.solid]) ?_
                simp
                refine (sameT e0 e0 hsm).b (n := 9) (by simp [mapOpt, envT_pict]) rfl ?_
                simp
                refine W.whileI (fun (k : Nat) F' S' => k ≤ B.ins.length ∧ F' 1 = .int .i64 nI ∧ F' 2 = .ptr 0 0 0 ∧ F' 5 = .bool true ∧ F' 6 = .ptr 1 0 0 ∧ F' 7 = encF intc 1 (sorted f.known) ∧ F' 8 = .int .i64 ((f.knownTo a).length + (f.knownBTo a k).length : Nat) ∧ F' 9 = .int .i64 a ∧ F' 13 = .int .i64 k ∧ LsI p f S') (fun k => B.ins.length - k) ?_ 0 _ _ ?_
                · clear hs0 hs1 s10
                  rintro k F S3 ⟨hk, f1, f2, f5, f6, f7, f8, f9, f13, hS3⟩
                  have hs0 := hS3.s0
                  have hs1 := hS3.s1
                  have hsn := hS3.n
                  simp only [func] at hs1
                  simp [f6, f9, f13, hs1, f.blksS.idx hB, B.insS.len]
                  by_cases hltk : k < B.ins.length
                  · obtain ⟨x, hx⟩ : ∃ x, B.ins[k]? = some x := ⟨_, List.getElem?_eq_getElem hltk⟩
                    have hx' : (f.code a)[k]? = some x := by rw [code_at hB]; exact hx
                    have e5 := wrapS k (by omega)
                    have hcat : p.cat nI a ((k + 1 : Nat) : Int) = f.cat a (k + 1) := cat_blk hf hB hon (by omega)
                    have hhas := known_is hf hB hx
                    have hst := knownB_succ hx'
                    have hkt := f.knownTo_len hok a
                    have hkb : (f.knownBTo a k).length ≤ k := knownK_len _ _ _
                    have z0 : ¬ 0 = S3.next := by omega
                    have z1 : ¬ 1 = S3.next := by omega
                    have e7 : IntKind.i64.wrap (((f.knownTo a).length : Int) + (f.knownBTo a k).length + 1) = ((f.knownTo a).length : Int) + (f.knownBTo a k).length + 1 := wrap_in (by omega)
                    simp [hltk, f6, f9, f13, hs1, f.blksS.idx hB, B.insS.idx hx, z1]
                    refine Dra.auto [] mix ?_ ?_
                    · kernel_rfl
                    simp [classes]
                    refine (instr_Def x).b (n := 9) (by rfl) rfl ?_
                    simp
                    by_cases ho : f.isOne a k x
                    · have hmem := hhas.2 ho
                      rw [if_pos ho] at hst
                      simp [ho.1, f1, f2, f9, f13, hs0, z0]
                      refine (instr_Def x).b (n := 9) (by rfl) rfl ?_
                      simp
                      refine (consts_Value p nI a ((k : Int) + 1) x.def hp).b (n := 9) (by simp [mapOpt, pict_stab p.funsS.stab, e5]) rfl ?_
                      rw [show ((k : Int) + 1) = ((k + 1 : Nat) : Int) from rfl, hcat]
                      simp [ho.2, f8, f7, e7]
                      refine (ref10_Has _ x.id _ hkS (by omega)).use (n := 9) (by simp [mapOpt, pict_stab hkS.stab]) rfl ?_
                      simp [hmem]
                      simp [f1, f2, f5, f6, f7, f9, f13, e5]
                      refine ⟨k + 1, by omega, by omega, ?_, by omega, hS3.up (fun q hq => by simp [show ¬ q = S3.next by omega]) (by simp)⟩
                      rw [hst]; simp; omega
                    · have hmem : x.id ∉ sorted f.known := fun h => ho (hhas.1 h)
                      rw [if_neg ho, List.append_nil] at hst
                      by_cases hd : 0 ≤ x.def
                      · have h1 : ¬ ((f.cat a (k + 1)).get x.def).k = 1 := fun h => ho ⟨hd, h⟩
                        simp [hd, f1, f2, f9, f13, hs0, z0]
                        refine (instr_Def x).b (n := 9) (by rfl) rfl ?_
                        simp
                        refine (consts_Value p nI a ((k : Int) + 1) x.def hp).b (n := 9) (by simp [mapOpt, pict_stab p.funsS.stab, e5]) rfl ?_
                        rw [show ((k : Int) + 1) = ((k + 1 : Nat) : Int) from rfl, hcat]
                        simp [h1, f8, f7]
                        refine (ref10_Has _ x.id _ hkS (by omega)).use (n := 9) (by simp [mapOpt, pict_stab hkS.stab]) rfl ?_
                        simp [hmem]
                        simp [f1, f2, f5, f6, f7, f8, f9, f13, e5]
                        exact ⟨k + 1, by omega, by omega, by rw [hst], by omega, hS3.up (fun q hq => by simp [show ¬ q = S3.next by omega]) (by simp)⟩
                      · simp [hd, f7]
                        refine (ref10_Has _ x.id _ hkS (by omega)).use (n := 9) (by simp [mapOpt, pict_stab hkS.stab]) rfl ?_
                        simp [hmem]
                        simp [f1, f2, f5, f6, f7, f8, f9, f13, e5]
                        exact ⟨k + 1, by omega, by omega, by rw [hst], by omega, hS3.up (fun q hq => by simp [show ¬ q = S3.next by omega]) (by simp)⟩
                  · have : k = B.ins.length := by omega
                    subst this
                    simp [f1, f2, f5, f6, f7, f8, f9, e4]
                    refine ⟨a + 1, by omega, by omega, ?_, by omega, hS3⟩
                    rw [f.knownTo_succ]
                    have : f.knownB a = f.knownBTo a B.ins.length := by unfold Fun.knownB Fun.knownBTo; rw [code_at hB]
                    simp [this]
                · simp [f1, f2, f5, f6, f7, f8, f9, Fun.knownBTo, knownK]
                  exact hS2
              · simp [hon]
                refine W.whileI (fun (k : Nat) F' S' => F' 1 = .int .i64 nI ∧ F' 2 = .ptr 0 0 0 ∧ F' 5 = .bool true ∧ F' 6 = .ptr 1 0 0 ∧ F' 7 = encF intc 1 (sorted f.known) ∧ F' 8 = .int .i64 (f.knownTo a).length ∧ F' 9 = .int .i64 a ∧ F' 13 = .int .i64 0 ∧ LsI p f S') (fun k => k) ?_ 0 _ _ ?_
                · clear hs0 hs1 s10
                  rintro k F S3 ⟨f1, f2, f5, f6, f7, f8, f9, f13, hS3⟩
                  have hs1 := hS3.s1
                  simp only [func] at hs1
                  simp [f6, f9, f13, hs1, f.blksS.idx hB, B.insS.len, hno]
                  simp [f1, f2, f5, f6, f7, f8, f9, e4]
                  refine ⟨a + 1, by omega, by omega, ?_, by omega, hS3⟩
                  rw [f.knownTo_succ]
                  have : f.knownB a = [] := by unfold Fun.knownB; rw [code_at hB, hno]; rfl
                  simp [this]
                · simp [f1, f2, f5, f6, f7, f8, f9]
                  exact hS2
          · simp [f1, f2, f5, f6, f7, f8, f9, f10]
            exact ⟨hS1, hn1, s10⟩
      · have : a = f.blks.length := by omega
        subst this
        have e6 : (f.knownTo f.blks.length).length = (sorted f.known).length := by rw [hsl]; rfl
        simp [f5, f7, f8, hkS.len, e6]
        exact RK.eq rfl rfl
    · simp [Fun.knownTo]
      exact ⟨by simp, by simp, by simp⟩
  · exact RK.eq rfl rfl
end Go.Proofs.YtchkknkjhiaooaaGreatDoor.Vm
