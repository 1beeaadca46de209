/- A part of the proof: Sa. -/
import Derived.Test.YtchkknkjhiaooaaGreatDoorQa0
set_option linter.unusedVariables false
set_option linter.unusedSimpArgs false
set_option linter.constructorNameAsVariable false
namespace Go.Proofs.YtchkknkjhiaooaaGreatDoor.Vm
open Go Go.RowKit
variable {N : Nat} {g : Glob}
set_option maxHeartbeats 1000000 in
theorem law_ConstsSteps (p : Prg) (i j : Int) : Ret P (gl N) false 9 [encP p, .int .i64 i, .int .i64 j] (.bool true) := by
  refine Ret.in c9 (by simp) ?_
  simp [k9]
  refine (awake20_ret).use (n := 9) (by rfl) rfl ?_
  simp
  refine (ref06_Few p).use (n := 9) (by simp [mapOpt, pict_stab p.funsS.stab]) (by simp [solids, AV.solid, p.funsS.solid]) ?_
  cases hfew : p.few
  · simp
    exact RK.eq rfl rfl
  have hp := Prg.few_fit hfew
  simp
  refine (prog_Sane p hp).use (n := 9) (by simp [mapOpt, pict_stab p.funsS.stab]) (by simp [solids, AV.solid, p.funsS.solid]) ?_
  cases hsane : p.sane
  · simp
    exact RK.eq rfl rfl
  simp
  refine (prog_Block p i j hp).use (n := 9) (by simp [mapOpt, pict_stab p.funsS.stab]) (by simp [solids, AV.solid, p.funsS.solid]) ?_
  simp
  cases hb : p.blk i j with
  | none =>
    have hat : p.cat i j 0 = Option.none := by
      unfold Prg.cat
      split
      · rfl
      · rename_i f hf
        have : f.blk j = Option.none := by simpa [Prg.blk, hf] using hb
        rw [this]
    simp
    refine (consts_At p i j 0 hp).use (n := 9) (by simp [mapOpt, pict_stab p.funsS.stab]) (by simp [solids, AV.solid, p.funsS.solid]) ?_
    rw [hat]
    simp
    exact RK.eq rfl rfl
  | some b =>
    obtain ⟨f, hf, hfb⟩ : ∃ f, p.fn i = some f ∧ f.blk j = some b := by
      unfold Prg.blk at hb
      cases hf : p.fn i with
      | none => rw [hf] at hb; cases hb
      | some f => rw [hf] at hb; exact ⟨f, rfl, hb⟩
    obtain ⟨jn, rfl, hb0, hon⟩ := blk_at hfb
    have hok := fn_ok hf
    have hbk := hok.blk (List.mem_of_getElem? hb0)
    have hil : b.ins.length ≤ 16 := hbk.2.2.2.1
    simp
    refine W.whileI (fun (n : Nat) F S => n ≤ b.ins.length ∧ F 1 = .int .i64 i ∧ F 2 = .int .i64 jn ∧ F 3 = .ptr 0 0 0 ∧ F 7 = .bool true ∧ F 8 = .ptr 1 0 0 ∧ F 10 = .int .i64 n ∧ 1 < S.next ∧ S.obj 0 = some (.row 1 [[p.funsV]]) ∧ S.obj 1 = some (.row 3 [blkc b])) (fun n => b.ins.length - n) ?_ 0 _ _ ?_
    · rintro n F S ⟨hn, f1, f2, f3, f7, f8, f10, hS, s0, s1⟩
      simp [f8, f10, s1, b.insS.len]
      by_cases hlt : n < b.ins.length
      · obtain ⟨x, hx⟩ : ∃ x, b.ins[n]? = some x := ⟨_, List.getElem?_eq_getElem hlt⟩
        have e4 := wrapS n (by omega)
        have hcn := cat_succ hb0 hx
        have hfit := f.cat_fit jn n
        have hc1 : p.cat i (jn : Int) (n : Int) = f.cat jn n := cat_blk hf hb0 hon (by omega)
        have hc2 : p.cat i (jn : Int) ((n : Int) + 1) = x.flat (f.cat jn n) := by rw [← hcn]; exact cat_blk hf hb0 hon (k := n + 1) (by omega)
        have hxo := hbk.2.2.2.2 x (List.mem_of_getElem? hx)
        have hdef := def_of hok hxo
        have hsm := hfit.small f.wid_lt
        have hfit' := Ins.flat_fit hfit x
        have hsm' := hfit'.small f.wid_lt
        have hsome := flat_isSome x (f.cat jn n)
        simp [hlt]
        simp [f8, f10, s1, b.insS.idx hx, f1, f2, f3, s0, show ¬ 0 = S.next by omega, show ¬ 1 = S.next by omega]
        refine (consts_At p i jn n hp).use (n := 9) (by simp [mapOpt, pict_stab p.funsS.stab]) (by simp [solids, AV.solid, p.funsS.solid]) ?_
        rw [hc1]
        generalize f.cat jn n = e at *
        simp [f1, f2, f3, f10, s0, show ¬ 0 = S.next by omega, show ¬ 0 = S.next + 1 by omega, e4]
        refine (consts_At p i jn (n + 1) hp).use (n := 9) (by simp [mapOpt, pict_stab p.funsS.stab]) (by simp [solids, AV.solid, p.funsS.solid]) ?_
        rw [hc2]
        have hfl := flat_same (x := x) hfit
        have hgt := @flat_getD f.wid x
        generalize he' : x.flat e = e' at *
        simp
        refine Dra.auto [] mix ?_ ?_
        · kernel_rfl
        have b1 : ¬ S.next = S.next + 1 := by omega
        have b2 : ¬ S.next + 1 = S.next + 1 + 1 := by omega
        have b3 : ¬ S.next = S.next + 1 + 1 := by omega
        have b4 : ¬ S.next = S.next + 1 + 1 := by omega
        simp [classes, b1, b2, b3, b4]
        refine (instr_Flat e x hsm).b (n := 9) (by simp [mapOpt]) (by simp [solids, AV.solid]) ?_
        rw [he']
        simp
        refine (theirFlat_ret e' hsm').b (n := 9) (by simp [mapOpt]) (by simp [solids, AV.solid]) ?_
        simp
        refine (theirFlat_ret e' hsm').b (n := 9) (by simp [mapOpt]) (by simp [solids, AV.solid]) ?_
        simp
        refine (sameT e' e' hsm').b (n := 9) (by simp [mapOpt, envT_pict]) rfl ?_
        simp [envc_is, hsome, b1, b2, b3]
        refine (instr_Def x).use (n := 9) (by rfl) rfl ?_
        simp
        refine Dra.auto [] mix ?_ ?_
        · kernel_rfl
        simp [classes, b1, b2, b3, envc_is]
        have z1 : ¬ 0 = S.next := by omega
        have z2 : ¬ 0 = S.next + 1 := by omega
        have z3 : ¬ 0 = S.next + 1 + 1 := by omega
        have z4 : ¬ 1 = S.next := by omega
        have z6 : ¬ 1 = S.next + 1 + 1 := by omega
        have z7 : ¬ S.next = 0 := by omega
        have fin : ∀ F' : AFrame, F' 1 = .int .i64 i → F' 2 = .int .i64 jn → F' 3 = .ptr 0 0 0 → F' 7 = .bool true → F' 8 = .ptr 1 0 0 → F' 10 = .int .i64 n → True := fun _ _ _ _ _ _ _ => trivial
        clear fin
        cases e with
        | none =>
          have : e' = Option.none := he'.symm
          subst this
          by_cases hneg : x.def < 0
          · simp [hneg]
            refine (theirFlat_ret Option.none hsm).b (n := 9) (by simp [mapOpt]) (by simp [solids, AV.solid]) ?_
            simp
            refine (theirFlat_ret Option.none hsm).b (n := 9) (by simp [mapOpt]) (by simp [solids, AV.solid]) ?_
            simp
            refine (sameT Option.none Option.none hsm).b (n := 9) (by simp [mapOpt, envT_pict]) rfl ?_
            simp [f1, f2, f3, f7, f8, f10, e4, z1, z2, z3, z4, z6, z7, s0]
            exact ⟨n + 1, by omega, by omega, by omega, s1⟩
          · simp [hneg]
            simp [f1, f2, f3, f7, f8, f10, e4, z1, z2, z3, z4, z6, z7, s0]
            exact ⟨n + 1, by omega, by omega, by omega, s1⟩
        | some l =>
          obtain ⟨l', rfl⟩ : ∃ l', e' = some l' := by
            cases e' with
            | none => simp at hsome
            | some l' => exact ⟨l', rfl⟩
          by_cases hneg : x.def < 0
          · have k6 : ¬ x.kind = 6 := fun h => by have := hdef (.inl h); omega
            have k7 : ¬ x.kind = 7 := fun h => by have := hdef (.inr (.inl h)); omega
            have k0 : ¬ x.kind = 0 := fun h => by have := hdef (.inr (.inr h)); omega
            have hll : l' = l := by have := hfl hneg; exact Option.some.inj this
            subst hll
            simp [hneg]
            refine (theirFlat_ret (some l') hsm).b (n := 9) (by simp [mapOpt]) (by simp [solids, AV.solid]) ?_
            simp
            refine (theirFlat_ret (some l') hsm).b (n := 9) (by simp [mapOpt]) (by simp [solids, AV.solid]) ?_
            simp
            refine (sameT (some l') (some l') hsm).b (n := 9) (by simp [mapOpt, envT_pict]) rfl ?_
            simp [k6, k7, k0, b1, b2, b3]
            simp [f1, f2, f3, f7, f8, f10, e4, z1, z2, z3, z4, z6, z7, s0]
            exact ⟨n + 1, by omega, by omega, by omega, s1⟩
          · by_cases k67 : x.kind = 6 ∨ x.kind = 7
            · have k0 : ¬ x.kind = 0 := by omega
              have hgv := hgt hfit (hdef (by omega))
              rw [he'] at hgv
              have hnum : x.number (some l) = ⟨2, 0⟩ := by
                simp only [Ins.number]
                repeat (rw [if_neg (by omega)])
              rw [hnum] at hgv
              have : x.kind = 6 ∨ (¬ x.kind = 6 ∧ x.kind = 7) := by omega
              rcases this with k6 | ⟨k6, k7⟩
              · simp [hneg, k6, b1, b2, b3]
                refine (env_GetFlat (some l') x.def).b (n := 9) (by simp [mapOpt]) rfl ?_
                rw [hgv]
                simp [k6, k0, b1, b2, b3]
                simp [f1, f2, f3, f7, f8, f10, e4, z1, z2, z3, z4, z6, z7, s0]
                exact ⟨n + 1, by omega, by omega, by omega, s1⟩
              · simp [hneg, k6, k7, b1, b2, b3]
                refine (env_GetFlat (some l') x.def).b (n := 9) (by simp [mapOpt]) rfl ?_
                rw [hgv]
                simp [k6, k7, k0, b1, b2, b3]
                simp [f1, f2, f3, f7, f8, f10, e4, z1, z2, z3, z4, z6, z7, s0]
                exact ⟨n + 1, by omega, by omega, by omega, s1⟩
            · have k6 : ¬ x.kind = 6 := fun h => k67 (.inl h)
              have k7 : ¬ x.kind = 7 := fun h => k67 (.inr h)
              by_cases k0 : x.kind = 0
              · have hgv := hgt hfit (hdef (by omega))
                rw [he'] at hgv
                have hnum : x.number (some l) = ⟨1, wrap32 x.c⟩ := by
                  simp only [Ins.number]
                  rw [if_pos k0]
                rw [hnum] at hgv
                simp [hneg, k6, k7, k0, b1, b2, b3]
                refine (env_GetFlat (some l') x.def).b (n := 9) (by simp [mapOpt]) rfl ?_
                rw [hgv]
                simp [k6, k0, b1, b2, b3]
                refine (flat_Of x.c).b (n := 9) (by simp [mapOpt]) rfl ?_
                simp
                simp [f1, f2, f3, f7, f8, f10, e4, z1, z2, z3, z4, z6, z7, s0]
                exact ⟨n + 1, by omega, by omega, by omega, s1⟩
              · simp [hneg, k6, k7, k0, b1, b2, b3]
                simp [f1, f2, f3, f7, f8, f10, e4, z1, z2, z3, z4, z6, z7, s0]
                exact ⟨n + 1, by omega, by omega, by omega, s1⟩
      · have : n = b.ins.length := by omega
        subst this
        have hnone : p.cat i (jn : Int) ((b.ins.length : Int) + 1) = Option.none := by
          unfold Prg.cat
          rw [hf]; simp only [hfb]
          rw [if_neg (by omega)]
        have e5 : IntKind.i64.wrap ((b.ins.length : Int) + 1) = (b.ins.length : Int) + 1 := wrap_in (by omega)
        simp [f7, f1, f2, f3, f8, s0, s1, b.insS.len, e5]
        refine (consts_At p i jn (b.ins.length + 1) hp).use (n := 9) (by simp [mapOpt, pict_stab p.funsS.stab]) (by simp [solids, AV.solid, p.funsS.solid]) ?_
        rw [hnone]
        simp
        exact RK.eq rfl rfl
    · simp
end Go.Proofs.YtchkknkjhiaooaaGreatDoor.Vm
