/- A part of the proof: Hi Ia Ib. -/
import Derived.Carry
import Derived.ChangeArms
import Derived.OpenShut
import Derived.ChangeSlices
import Derived.Test.YtchkknkjhiaooaaGreatDoorQ26
set_option linter.unusedVariables false
set_option linter.unusedSimpArgs false
set_option linter.constructorNameAsVariable false
namespace Go.Proofs.YtchkknkjhiaooaaGreatDoor.Vm
open Go Go.RowKit
variable {N : Nat} {g : Glob}
theorem low_and (a : Int) : ∃ n : Nat, iand IntKind.i64 a 65535 = (n : Int) := by
  have h1 : (BitVec.ofInt IntKind.i64.bits a &&& BitVec.ofInt IntKind.i64.bits 65535).toNat ≤ 65535 := by
    rw [BitVec.toNat_and]
    exact Nat.and_le_right
  unfold iand
  exact ⟨_, wrap_in (by omega)⟩
theorem once_sub : ∀ (l out : List Int) (x : Int), x ∈ l.foldl addOnce out → x ∈ out ∨ x ∈ l
  | [], out, x, h => .inl h
  | y :: l, out, x, h => by
    rcases once_sub l (addOnce out y) x h with h | h
    · unfold addOnce at h
      split at h
      · exact .inl h
      · rcases List.mem_append.1 h with h | h
        · exact .inl h
        · exact .inr (by simp at h; simp [h])
    · exact .inr (by simp [h])
theorem use_nn {i : Ins} {x : Int} (h : x ∈ i.uses) : 0 ≤ x := by
  unfold Ins.uses at h
  split at h
  · rename_i hok
    have hp : i.okP := by simpa [Ins.ok] using hok
    rcases once_sub i.all [] x h with h | h
    · cases h
    · obtain ⟨_, _, _, _, _, _, _, _, ha, hb, _, h0, h1, h2, _⟩ := hp
      unfold Ins.all at h
      rcases List.mem_append.1 h with h | h
      · rcases List.mem_append.1 h with h | h
        · split at h
          · simp at h; omega
          · cases h
        · split at h
          · simp at h; omega
          · cases h
      · have := List.mem_of_mem_take h
        simp at this
        omega
  · cases h
theorem ins_vars {p : Prg} {f : Fun} {i : Ins} (h : p.insOK f i = true) : (∀ x ∈ i.uses, 0 ≤ x ∧ x < f.vars) ∧ (i.def = -1 ∨ (0 ≤ i.def ∧ i.def < f.vars)) := by
  simp only [Prg.insOK, Bool.and_eq_true, Bool.not_eq_true', List.any_eq_false, decide_eq_true_eq] at h
  obtain ⟨⟨h1, h2⟩, _⟩ := h
  refine ⟨fun x hx => ⟨use_nn hx, ?_⟩, ?_⟩
  · have := h2 x ((vars_mem i x).2 (.inl hx))
    omega
  · by_cases hd : i.def = -1
    · exact .inl hd
    · refine .inr ⟨?_, ?_⟩
      · have hp : i.okP := by simpa [Ins.ok] using h1
        have := hp.2.2.2.2.2.2.2.1
        unfold Ins.def at hd ⊢
        split
        · exact this
        · rename_i hh; rw [if_neg hh] at hd; exact absurd rfl hd
      · have := h2 i.def ((vars_mem i i.def).2 (.inr ⟨hd, rfl⟩))
        omega
def WalkI (L0 at' : BSet) (m : List Bool) : Prop := ∀ v, at'.mem v = true → m[v]? = some false → L0.mem v = true
theorem blk_at {f : Fun} {j : Int} {b : Blk} (h : f.blk j = some b) : ∃ n : Nat, j = (n : Int) ∧ f.blks[n]? = some b ∧ b.on = true := by
  unfold Fun.blk at h
  split at h
  · rename_i hl
    obtain ⟨h0, _, b', hb', hon⟩ := live_lt hl
    rw [h] at hb'; cases hb'
    exact ⟨j.toNat, by omega, h, hon⟩
  · cases h
def WkI (p : Prg) (f : Fun) (i : Int) (nv : Nat) (L0 : BSet) (jn : Nat) (S : St) : Prop := ∃ (b : Blk) (m : List Bool), f.blks[jn]? = some b ∧ b.on = true ∧ S.obj 0 = some (.row 1 [[p.funsV]]) ∧ S.obj 3 = some (.row 2 [setc L0]) ∧ S.obj 4 = some (.row 1 (els boolc m)) ∧ m.length = nv ∧ 5 ≤ S.next ∧ WalkI L0 (f.at b 0) m
def WkN (p : Prg) (f : Fun) (nv : Nat) (L0 : BSet) (b : Blk) (o n : Nat) (S : St) : Prop := ∃ m : List Bool, S.obj 0 = some (.row 1 [[p.funsV]]) ∧ S.obj 3 = some (.row 2 [setc L0]) ∧ S.obj 4 = some (.row 1 (els boolc m)) ∧ m.length = nv ∧ S.obj o = some (.row 3 [blkc b]) ∧ 5 ≤ S.next ∧ WalkI L0 (f.at b n) m
theorem law_LiveWalk (p : Prg) (i j : Int) (ways : List Int) (wv : AV) (hw : FSl intc 1 wv ways) : Ret P (gl N) false 4 [encP p, .int .i64 i, .int .i64 j, wv] (.bool true) := by
  refine Ret.in c4 (by simp) ?_
  simp [k4]
  refine (awake_ret).use (n := 9) (by rfl) rfl ?_
  simp
  refine (ref06_Few p).use (n := 9) (by simp [mapOpt, pict_stab p.funsS.stab]) (by simp [solids, AV.solid, p.funsS.solid]) ?_
  cases hfew : p.few
  · simp
    exact RK.eq rfl rfl
  have hp := Prg.few_fit hfew
  simp
  refine (prog_Sane p hp).use (n := 9) (by simp [mapOpt, pict_stab p.funsS.stab]) (by simp [solids, AV.solid, p.funsS.solid]) ?_
  cases hsane : p.sane
  · simp
    exact RK.eq rfl rfl
  simp [hw.len]
  refine bra_dec (fun h2 => ?_) (fun h2 => ?_) <;> simp [h2]
  · exact RK.eq rfl rfl
  refine (prog_Fun p i hp).use (n := 9) (by simp [mapOpt, pict_stab p.funsS.stab]) (by simp [solids, AV.solid, p.funsS.solid]) ?_
  simp
  refine (prog_Block p i j hp).use (n := 9) (by simp [mapOpt, pict_stab p.funsS.stab]) (by simp [solids, AV.solid, p.funsS.solid]) ?_
  simp
  cases hf : p.fn i with
  | none =>
    simp
    exact RK.eq rfl rfl
  | some f =>
    cases hb : p.blk i j with
    | none =>
      simp
      exact RK.eq rfl rfl
    | some b =>
      have hfb : f.blk j = some b := by simpa [Prg.blk, hf] using hb
      obtain ⟨jn, hjn, hb0, hon⟩ := blk_at hfb
      subst hjn
      have hok := fn_ok hf
      have hvo := hok.vars
      obtain ⟨nv, hnv⟩ : ∃ n : Nat, f.vars = (n : Int) := ⟨f.vars.toNat, by have := hvo.1; have := hvo.2.2.1; omega⟩
      have hnv6 : nv ≤ 6 := by have := hvo.2.2.2; omega
      have hroom : nv ≤ room := by simp [room]; omega
      have hL := p.at_ok i jn 0
      have hL0 : p.at i jn 0 = f.at b 0 := by
        have h0 := at_blk hf hb0 hon (k := 0) (by omega)
        simpa using h0
      have e1 : ∀ n : Nat, List.replicate n [AV.bool false] = els boolc (List.replicate n false) := fun n => els_replicate (e := boolc)
      simp
      refine (live_At p i jn 0 hp).use (n := 9) (by simp [mapOpt, pict_stab p.funsS.stab]) (by simp [solids, AV.solid, p.funsS.solid]) ?_
      simp [hnv, hroom]
      generalize hLe : p.at i jn 0 = L0 at *
      refine W.whileI (fun (k : Nat) F S => k ≤ ways.length ∧ F 1 = .int .i64 i ∧ (∃ jm : Nat, F 2 = .int .i64 jm ∧ WkI p f i nv L0 jm S) ∧ F 3 = wv ∧ F 4 = .ptr 0 0 0 ∧ F 9 = .bool true ∧ F 14 = .ptr 3 0 0 ∧ F 15 = .sl 1 4 0 nv ∧ F 16 = .int .i64 k) (fun k => ways.length - k) ?_ 0 _ _ ?_
      · rintro k F S ⟨hk, f1, ⟨jm, f2, b', m, hb', hon', s0, s3, s4, hml, sn, hWI⟩, f3, f4, f9, f14, f15, f16⟩
        simp [f16, f3, hw.len]
        by_cases hkl : k < ways.length
        · by_cases hk8 : k < 8
          · have hblk : p.blk i jm = some b' := by
              have hlv : f.live (jm : Int) = true := by simp [Fun.live, hb', hon']
              simp [Prg.blk, hf, Fun.blk, hlv, hb']
            have hbm := List.mem_of_getElem? hb'
            have hbk := hok.blk hbm
            have hbo := hok.out b' hbm
            simp [hkl, show (k : Int) < 8 by omega, f16, f1, f2, f4, s0]
            refine (prog_Block p i jm hp).use (n := 9) (by simp [mapOpt, pict_stab p.funsS.stab]) (by simp [solids, AV.solid, p.funsS.solid]) ?_
            simp [hblk]
            refine W.whileI (fun (n : Nat) F' S' => n ≤ b'.ins.length ∧ F' 1 = .int .i64 i ∧ F' 3 = wv ∧ F' 4 = .ptr 0 0 0 ∧ F' 9 = .bool true ∧ F' 14 = .ptr 3 0 0 ∧ F' 15 = .sl 1 4 0 nv ∧ F' 16 = .int .i64 k ∧ F' 17 = .ptr S.next 0 0 ∧ F' 19 = .int .i64 n ∧ WkN p f nv L0 b' S.next n S') (fun n => b'.ins.length - n) ?_ 0 _ _ ?_
            · rintro n F' S' ⟨hn, f1, f3, f4, f9, f14, f15, f16, f17, f19, m, t0, t3, t4, hml, tA, tn, hWI⟩
              simp [f17, f19, tA, b'.insS.len]
              by_cases hnl : n < b'.ins.length
              · obtain ⟨x, hx⟩ : ∃ x, b'.ins[n]? = some x := ⟨_, List.getElem?_eq_getElem hnl⟩
                have hxv := ins_vars (hbk.2.2.2.2 x (List.mem_of_getElem? hx))
                have huf : FSl intc 1 (encF intc 1 x.uses) x.uses := encF_sl
                have o1 := f.at_ok b' (n + 1)
                have hlive : f.at b' n = x.live (f.at b' (n + 1)) := by
                  obtain ⟨h1, h2⟩ := List.getElem?_eq_some_iff.1 hx
                  show (b'.ins.drop n).foldr Ins.live _ = x.live ((b'.ins.drop (n + 1)).foldr Ins.live _)
                  rw [List.drop_eq_getElem_cons h1, h2]; rfl
                have hil : b'.ins.length ≤ 16 := hbk.2.2.2.1
                have e5 : IntKind.i64.wrap ((n : Int) + 1) = ((n + 1 : Nat) : Int) := by rw [wrap_in (by omega)]; omega
                simp [hnl, f17, f19, tA, b'.insS.idx hx]
                refine (instr_Uses x).ret.use (n := 9) (by rfl) rfl ?_
                simp
                refine W.whileI (fun (q : Nat) F' S'' => q ≤ x.uses.length ∧ F' 1 = .int .i64 i ∧ F' 3 = wv ∧ F' 4 = .ptr 0 0 0 ∧ F' 9 = .bool true ∧ F' 14 = .ptr 3 0 0 ∧ F' 15 = .sl 1 4 0 nv ∧ F' 16 = .int .i64 k ∧ F' 17 = .ptr S.next 0 0 ∧ F' 19 = .int .i64 n ∧ F' 20 = encF intc 1 x.uses ∧ F' 21 = .int .i64 q ∧ S'' = S') (fun q => x.uses.length - q) ?_ 0 _ _ ?_
                · rintro q F' S'' ⟨hq, f1, f3, f4, f9, f14, f15, f16, f17, f19, f20, f21, rfl⟩
                  simp [f20, f21, huf.len]
                  by_cases hql : q < x.uses.length
                  · obtain ⟨u, hu⟩ : ∃ u, x.uses[q]? = some u := ⟨_, List.getElem?_eq_getElem hql⟩
                    have hum := List.mem_of_getElem? hu
                    have hu0 := hxv.1 u hum
                    obtain ⟨un, rfl⟩ : ∃ n : Nat, u = (n : Int) := ⟨u.toNat, by omega⟩
                    have hun : un < nv := by omega
                    obtain ⟨sb, hsb⟩ : ∃ sb, m[un]? = some sb := ⟨_, List.getElem?_eq_getElem (by omega)⟩
                    have hul := uses_len x
                    have e6 : IntKind.i64.wrap ((q : Int) + 1) = ((q + 1 : Nat) : Int) := by rw [wrap_in (by omega)]; omega
                    have hlv : sb = false → L0.mem un = true := fun h => by
                      refine hWI un ?_ (h ▸ hsb)
                      rw [hlive, live_mem x o1.1 o1.2 (by omega)]
                      simp [hum]
                    simp [hql]
                    refine Dra.auto [] mix ?_ ?_
                    · kernel_rfl
                    simp [classes, f14, f15, f20, f21, t3, t4, huf.idx hu, intc, ix_sl hun, hsb, boolc]
                    cases sb
                    · simp [f14, t3, f20, f21, huf.idx hu, intc]
                      refine (bits_Has L0 un hL.1).b (n := 9) (by simp [mapOpt]) rfl ?_
                      have hh : (L0.isB (un : Int) && L0.mem (un : Int).toNat) = true := by
                        rw [Int.toNat_natCast, hlv rfl]
                        simp [BSet.isB, hL.2]; omega
                      rw [hh]
                      simp [f1, f3, f4, f9, f14, f15, f16, f17, f19, f20, f21, e6]
                      exact ⟨q + 1, by omega, by omega, by omega⟩
                    · simp [f1, f3, f4, f9, f14, f15, f16, f17, f19, f20, f21, e6]
                      exact ⟨q + 1, by omega, by omega, by omega⟩
                  · simp [hql, f17, f19, tA, b'.insS.idx hx]
                    refine (instr_Def x).use (n := 9) (by rfl) rfl ?_
                    simp
                    have hstep : ∀ m' : List Bool, (∀ v : Nat, m'[v]? = some false → m[v]? = some false ∧ (v : Int) ≠ x.def) → WalkI L0 (f.at b' (n + 1)) m' := fun m' hm' v hv hv2 => by
                      obtain ⟨h1, h2⟩ := hm' v hv2
                      have hv6 : v < 6 := by
                        have := (List.getElem?_eq_some_iff.1 h1).1
                        omega
                      refine hWI v ?_ h1
                      rw [hlive, live_mem x o1.1 o1.2 hv6, hv]
                      simp [h2]
                    by_cases hd : 0 ≤ x.def
                    · obtain ⟨dn, hdn⟩ : ∃ n : Nat, x.def = (n : Int) := ⟨x.def.toNat, by omega⟩
                      have hdl : dn < nv := by
                        rcases hxv.2 with h | h <;> omega
                      obtain ⟨sb, hsb⟩ : ∃ sb, m[dn]? = some sb := ⟨_, List.getElem?_eq_getElem (by omega)⟩
                      simp [hd, f15, f17, f19, tA, b'.insS.idx hx]
                      refine (instr_Def x).use (n := 9) (by rfl) rfl ?_
                      rw [hdn]
                      simp [ix_sl hdl, t4, hsb, boolc, f1, f3, f4, f9, f14, f15, f16, f17, f19, e5]
                      refine ⟨n + 1, by omega, by omega, by omega, m.set dn true, by simp [t0], by simp [t3], by rw [← els_set]; simp [boolc], by simp [hml], by simp [show ¬ S.next = 4 by omega, tA], by simpa using tn, hstep _ fun v hv => ?_⟩
                      by_cases hvd : v = dn
                      · subst hvd
                        rw [List.getElem?_set_self (by omega)] at hv
                        cases hv
                      · rw [List.getElem?_set_ne (Ne.symm hvd)] at hv
                        exact ⟨hv, by rw [hdn]; omega⟩
                    · simp [hd, f1, f3, f4, f9, f14, f15, f16, f17, f19, e5]
                      refine ⟨n + 1, by omega, by omega, by omega, m, t0, t3, t4, hml, by simp [tA], tn, hstep m fun v hv => ⟨hv, by omega⟩⟩
                · simp [f1, f3, f4, f9, f14, f15, f16, f17, f19]
              · have : n = b'.ins.length := by omega
                subst this
                have hbl : b'.out.length < 64 := hbo.1
                simp [f17, tA, b'.outS.len]
                by_cases ho0 : b'.out = []
                · simp [ho0, f9]
                  exact RK.eq rfl rfl
                · obtain ⟨wk, hwk⟩ : ∃ w, ways[k]? = some w := ⟨_, List.getElem?_eq_getElem hkl⟩
                  obtain ⟨a, ha⟩ := low_and wk
                  simp [ho0, f17, tA]
                  refine Dra.auto [] mix ?_ ?_
                  · kernel_rfl
                  simp [classes, f3, f16, f17, tA, hw.idx hwk, intc, b'.outS.len]
                  have hop : 0 < b'.out.length := List.length_pos_iff.2 ho0
                  have hr : (iand IntKind.i64 wk 65535).tmod (b'.out.length : Int) = ((a % b'.out.length : Nat) : Int) := by rw [ha]; rfl
                  obtain ⟨jj, hj⟩ : ∃ j, b'.out[a % b'.out.length]? = some j := ⟨_, List.getElem?_eq_getElem (Nat.mod_lt _ hop)⟩
                  obtain ⟨hj0, hjn, b2, hb2, hon2⟩ := live_lt (hbk.2.2.1 jj (List.mem_of_getElem? hj))
                  obtain ⟨jn2, rfl⟩ : ∃ n : Nat, jj = (n : Int) := ⟨jj.toNat, by omega⟩
                  simp only [Int.toNat_natCast] at hb2
                  have hjoin : ∀ v, (f.at b2 0).mem v = true → (f.at b' b'.ins.length).mem v = true := fun v hv => by
                    rw [Fun.at_sol hb2] at hv
                    show ((b'.ins.drop b'.ins.length).foldr Ins.live (bigOr (sol f.blks) b'.out)).mem v = true
                    rw [List.drop_length]
                    show (bigOr (sol f.blks) b'.out).mem v = true
                    rw [bigOr_mem (sol_good f.blks), List.any_eq_true]
                    refine ⟨_, List.mem_of_getElem? hj, ?_⟩
                    rw [Int.toNat_natCast, List.getD_eq_getElem?_getD, sol_get (show jn2 < f.blks.length by omega)]
                    exact hv
                  have e7 : IntKind.i64.wrap ((k : Int) + 1) = ((k + 1 : Nat) : Int) := by rw [wrap_in (by omega)]; omega
                  have hidx := b'.outS.idx hj
                  rw [show ((a % b'.out.length : Nat) : Int) = (a : Int) % (b'.out.length : Int) from rfl] at hidx
                  rw [hr]
                  simp [ho0, hidx, intc, f1, f3, f4, f9, f14, f15, f16, e7]
                  exact ⟨k + 1, by omega, by omega, ⟨jn2, rfl, b2, m, hb2, hon2, t0, t3, t4, hml, tn, fun v hv hv2 => hWI v (hjoin v hv) hv2⟩, by omega⟩
            · simp [f1, f3, f4, f9, f14, f15, f16]
              exact ⟨m, by simp [show ¬ 0 = S.next by omega, s0], by simp [show ¬ 3 = S.next by omega, s3], by simp [show ¬ 4 = S.next by omega, s4], hml, by simp, by simp; omega, hWI⟩
          · simp [hkl, show ¬ (k : Int) < 8 by omega, f16, f9]
            exact RK.eq rfl rfl
        · simp [hkl, f9]
          exact RK.eq rfl rfl
      · simp
        refine ⟨jn, rfl, b, List.replicate nv false, hb0, hon, by simp, by simp, by simp [e1], by simp, by simp, ?_⟩
        intro v hv _
        rw [← hL0] at hv
        exact hv
end Go.Proofs.YtchkknkjhiaooaaGreatDoor.Vm
namespace Go.Proofs.YtchkknkjhiaooaaGreatDoor.Vm
open Go Go.RowKit Go.ChangeShapes Go.WideShapes
section
variable {H : Type} {enc : TypeId × Value → H} {w : World} {sp : Nat → Bool}
noncomputable def fieldsOf (t : TypeId) : Array Field := match P.underlying t with | some (.struct fs) => fs | _ => #[]
noncomputable def fieldsAt (t : TypeId) : List (TypeId × Nat) := (fieldsOf t).toList.map fun f => (f.type, f.offset)
theorem trod_field {t : TypeId} {fuel : Nat} {cs : List Value} {x : DataW H × List MemPlace} {L : List (TypeId × Nat)} (ht : P.underlying t = some (.struct (fieldsOf t))) (hL : fieldsAt t = L) (h : DataW.trod enc P w 0 sp true fuel t cs = some x) :
    cs.length = P.cellsOf t ∧ ∃ n, ∀ (i : Nat) (u : TypeId) (o : Nat), L[i]? = some (u, o) → ∃ y, DataW.trod enc P w 0 sp true n u ((cs.drop o).take (P.cellsOf u)) = some y := by
  obtain ⟨xs, n, rfl, rfl, h1, h2, h3⟩ := DataW.trod_struct ht h
  refine ⟨h1, n, fun i u o hi => ?_⟩
  rw [← hL, fieldsAt, List.getElem?_map] at hi
  cases hf : (fieldsOf t).toList[i]? with
  | none => rw [hf] at hi; cases hi
  | some f =>
    rw [hf] at hi
    simp at hi
    obtain ⟨rfl, rfl⟩ := hi
    have hf2 : (fieldsOf t)[i]? = some f := by simpa using hf
    have hlt : i < (fieldsOf t).size := (Array.getElem?_eq_some_iff.1 hf2).1
    rw [h3 i f hf2]
    exact ⟨_, List.getElem?_eq_getElem (by omega)⟩
def C0 (w : World) : Ctx := ⟨w, w.heap.size, fun _ => False, fun _ => none, St.empty⟩
theorem C0_bad {w : World} {b : Nat} : ¬ (C0 w).bad b := by
  rintro (⟨_, h⟩ | ⟨o, l, x, h, _⟩)
  · exact h
  · cases h
def Opens {α : Type} (enc : TypeId × Value → H) (w : World) (sp : Nat → Bool) (t : TypeId) (e : α → List AV) : Prop := ∀ (fuel : Nat) (cs : List Value) (x : DataW H × List MemPlace), DataW.trod enc P w 0 sp true fuel t cs = some x → ∃ a : α, VRs (C0 w) cs (e a) ∧ ∀ v ∈ e a, v.solid = true
theorem opens_int {t : TypeId} (ht : P.underlying t = some (.int .i64)) : Opens enc w sp t intc := by
  intro fuel cs x h
  obtain ⟨n, rfl, _, _⟩ := DataW.trod_int ht h
  exact ⟨n, .cons _ _ _ _ (.int _ _) .nil, fun v hv => by simp [intc] at hv; subst hv; rfl⟩
theorem plainAdd (b q k : Nat) : (⟨b, q, none⟩ : Addr).add k = ⟨b, q + k, none⟩ := by
  unfold Addr.add
  split
  · subst_vars; rfl
  · rfl
theorem VRs.app {C : Ctx} : ∀ {vs us : List Value} {xs ys : List AV}, VRs C vs xs → VRs C us ys → VRs C (vs ++ us) (xs ++ ys)
  | _, _, _, _, .nil, h2 => h2
  | _, _, _, _, .cons v x vs xs h hs, h2 => .cons v x _ _ h (VRs.app hs h2)
theorem opens_slice {α : Type} {t u : TypeId} {e : α → List AV} {sz : Nat} (ht : P.underlying t = some (.slice u)) (hc : P.cellsOf u = sz) (hsz : 0 < sz) (he : ∀ a, (e a).length = sz) (ho : Opens enc w sp u e) : Opens enc w sp t (fun p : Bool × List α => [encN p.1 e sz p.2]) := by
  intro fuel cs x h
  rcases DataW.trod_slice ht h with ⟨rfl, _⟩ | ⟨a, len, cap, elems, rest, n, rfl, rfl, rfl, hb, hl, hm, hlen, hel, _, _⟩
  · exact ⟨(true, []), .cons _ _ _ _ (by simp [encN]; exact .nilsl none) .nil, fun v hv => by simp [encN] at hv; subst hv; rfl⟩
  · by_cases h0 : len = 0
    · subst h0
      exact ⟨(false, []), .cons _ _ _ _ (by simp [encN, els]; exact .fnil (some a) cap sz) .nil, fun v hv => by simp [encN, els] at hv; subst hv; rfl⟩
    · obtain ⟨blk, off, spot⟩ := a
      have row : ∀ i, i < len → ∃ cs y, cs.length = sz ∧ (∀ j, j < sz → w.cell? ((⟨blk, off, spot⟩ : Addr).add (i * sz) |>.add j) = cs[j]?) ∧ DataW.trod enc P w 0 sp true n u cs = some y := by
        intro i hi
        have h1 := hel i hi
        rw [hc, List.getElem?_eq_getElem (by omega)] at h1
        cases hcs : w.cells? 0 ((⟨blk, off, spot⟩ : Addr).add (i * sz)) sz with
        | none => rw [hcs] at h1; cases h1
        | some cs =>
          rw [hcs] at h1
          obtain ⟨_, k1, k2⟩ := World.cells?_some hcs
          exact ⟨cs, _, k1, k2, h1⟩
      have hspot : spot = none := by
        obtain ⟨cs, y, k1, k2, _⟩ := row 0 (by omega)
        have g0 := k2 0 hsz
        obtain ⟨c0, hc0⟩ : ∃ c0, cs[0]? = some c0 := ⟨_, List.getElem?_eq_getElem (by omega)⟩
        rw [hc0] at g0
        simpa [Addr.add] using World.cell?_spot g0
      subst hspot
      have key : ∀ m, m ≤ len → ∃ (l : List α) (vs : List Value), l.length = m ∧ vs.length = m * sz ∧ Cells w blk off vs ∧ VRs (C0 w) vs (els e l).flatten ∧ ∀ v ∈ (els e l).flatten, v.solid = true := by
        intro m
        induction m with
        | zero => intro _; exact ⟨[], [], rfl, by simp, (fun j v h => by simp at h), by simp [els]; exact .nil, fun v h => by simp [els] at h⟩
        | succ m ih =>
          intro hm
          obtain ⟨l, vs, k1, k2, k3, k4, k5⟩ := ih (by omega)
          obtain ⟨cs, y, c1, c2, c3⟩ := row m (by omega)
          obtain ⟨a, a1, a2⟩ := ho n cs y c3
          refine ⟨l ++ [a], vs ++ cs, by simp [k1], by simp [k2, c1, Nat.add_mul], ?_, ?_, ?_⟩
          · intro j v hj
            by_cases hjl : j < vs.length
            · rw [List.getElem?_append_left hjl] at hj
              exact k3 j v hj
            · rw [List.getElem?_append_right (by omega)] at hj
              have hlt := (List.getElem?_eq_some_iff.1 hj).1
              have h2 := c2 (j - vs.length) (by omega)
              rw [hj] at h2
              have ea : ((⟨blk, off, none⟩ : Addr).add (m * sz)).add (j - vs.length) = ⟨blk, off + j, none⟩ := by
                rw [plainAdd, plainAdd, show off + m * sz + (j - vs.length) = off + j by rw [← k2]; omega]
              rwa [ea] at h2
          · have : (els e (l ++ [a])).flatten = (els e l).flatten ++ e a := by simp [els]
            rw [this]
            exact k4.app a1
          · intro v hv
            have : (els e (l ++ [a])).flatten = (els e l).flatten ++ e a := by simp [els]
            rw [this, List.mem_append] at hv
            rcases hv with hv | hv
            · exact k5 v hv
            · exact a2 v hv
      obtain ⟨l, vs, k1, k2, k3, k4, k5⟩ := key len (Nat.le_refl _)
      have hblk : blk < w.heap.size := by
        obtain ⟨cs, y, c1, c2, _⟩ := row 0 (by omega)
        have g0 := c2 0 hsz
        obtain ⟨c0, hc0⟩ : ∃ c0, cs[0]? = some c0 := ⟨_, List.getElem?_eq_getElem (by omega)⟩
        rw [hc0] at g0
        have e0 : ((⟨blk, off, none⟩ : Addr).add (0 * sz)).add 0 = ⟨blk, off, none⟩ := by simp [Addr.add]
        rw [e0] at g0
        unfold World.cell? at g0
        cases hh : w.heap[blk]? with
        | none => simp [hh] at g0
        | some o => exact (Array.getElem?_eq_some_iff.1 hh).1
      have hen : encN false e sz l = .fsl sz (els e l) := by simp [encN]
      refine ⟨(false, l), .cons _ _ _ _ ?_ .nil, ?_⟩
      · show VR (C0 w) _ (encN false e sz l)
        rw [hen]
        have hll : (els e l).length = len := by simp [els, k1]
        rw [← hll]
        refine .fsl blk off cap sz vs (els e l) k3 ?_ k4 k5 C0_bad hblk (by omega)
        intro x hx
        simp only [els, List.mem_map] at hx
        obtain ⟨a, _, rfl⟩ := hx
        exact he a
      · intro v hv
        simp only [List.mem_singleton] at hv
        subst hv
        rw [hen]
        simp only [AV.solid]
end
end Go.Proofs.YtchkknkjhiaooaaGreatDoor.Vm
namespace Go.Proofs.YtchkknkjhiaooaaGreatDoor.Vm
open Go Go.RowKit Go.ChangeShapes Go.WideShapes
section
variable {H : Type} {enc : TypeId × Value → H} {w : World} {sp : Nat → Bool}
theorem u3 : P.underlying 3 = some (.int .i64) := by kernel_rfl
theorem u4 : P.underlying 4 = some .bool := by kernel_rfl
theorem u22 : P.underlying 22 = some (.slice 31) := by kernel_rfl
theorem u29 : P.underlying 29 = some (.slice 35) := by kernel_rfl
theorem u32 : P.underlying 32 = some (.slice 47) := by kernel_rfl
theorem u33 : P.underlying 33 = some (.slice 3) := by kernel_rfl
theorem u45 : P.underlying 45 = some (.array 3 3) := by kernel_rfl
theorem u24 : P.underlying 24 = some (.struct (fieldsOf 24)) := by kernel_rfl
theorem u31 : P.underlying 31 = some (.struct (fieldsOf 31)) := by kernel_rfl
theorem u35 : P.underlying 35 = some (.struct (fieldsOf 35)) := by kernel_rfl
theorem u47 : P.underlying 47 = some (.struct (fieldsOf 47)) := by kernel_rfl
theorem f24 : fieldsAt 24 = [(22, 0)] := by kernel_rfl
theorem f31 : fieldsAt 31 = [(3, 0), (3, 1), (29, 2)] := by kernel_rfl
theorem f35 : fieldsAt 35 = [(4, 0), (32, 1), (33, 2)] := by kernel_rfl
theorem f47 : fieldsAt 47 = [(3, 0), (3, 1), (3, 2), (3, 3), (3, 4), (3, 5), (3, 6), (3, 7), (45, 8)] := by kernel_rfl
theorem z3 : P.cellsOf 3 = 1 := by kernel_rfl
theorem z4 : P.cellsOf 4 = 1 := by kernel_rfl
theorem z22 : P.cellsOf 22 = 1 := by kernel_rfl
theorem z29 : P.cellsOf 29 = 1 := by kernel_rfl
theorem z32 : P.cellsOf 32 = 1 := by kernel_rfl
theorem z33 : P.cellsOf 33 = 1 := by kernel_rfl
theorem z45 : P.cellsOf 45 = 3 := by kernel_rfl
theorem z24 : P.cellsOf 24 = 1 := by kernel_rfl
theorem z31 : P.cellsOf 31 = 3 := by kernel_rfl
theorem z35 : P.cellsOf 35 = 3 := by kernel_rfl
theorem z47 : P.cellsOf 47 = 11 := by kernel_rfl
theorem trod_one {n : Nat} {c : Value} {y : DataW H × List MemPlace} (h : DataW.trod enc P w 0 sp true n 3 [c] = some y) : ∃ k, c = .int .i64 k := by
  obtain ⟨k, hk, _⟩ := DataW.trod_int u3 h
  exact ⟨k, by simpa using hk⟩
theorem len11 {α : Type} {l : List α} (h : l.length = 11) : ∃ a0 a1 a2 a3 a4 a5 a6 a7 a8 a9 a10, l = [a0, a1, a2, a3, a4, a5, a6, a7, a8, a9, a10] := by
  match l, h with
  | [a0, a1, a2, a3, a4, a5, a6, a7, a8, a9, a10], _ => exact ⟨a0, a1, a2, a3, a4, a5, a6, a7, a8, a9, a10, rfl⟩
theorem len3 {α : Type} {l : List α} (h : l.length = 3) : ∃ a0 a1 a2, l = [a0, a1, a2] := by
  match l, h with
  | [a0, a1, a2], _ => exact ⟨a0, a1, a2, rfl⟩
theorem opens_instr : Opens enc w sp 47 insc := by
  intro fuel cs x h
  obtain ⟨hl, n, hf⟩ := trod_field u47 f47 h
  rw [z47] at hl
  obtain ⟨c0, c1, c2, c3, c4, c5, c6, c7, c8, c9, c10, rfl⟩ := len11 hl
  obtain ⟨y0, h0⟩ := hf 0 3 0 rfl
  obtain ⟨y1, h1⟩ := hf 1 3 1 rfl
  obtain ⟨y2, h2⟩ := hf 2 3 2 rfl
  obtain ⟨y3, h3⟩ := hf 3 3 3 rfl
  obtain ⟨y4, h4⟩ := hf 4 3 4 rfl
  obtain ⟨y5, h5⟩ := hf 5 3 5 rfl
  obtain ⟨y6, h6⟩ := hf 6 3 6 rfl
  obtain ⟨y7, h7⟩ := hf 7 3 7 rfl
  obtain ⟨y8, h8⟩ := hf 8 45 8 rfl
  rw [z3] at h0 h1 h2 h3 h4 h5 h6 h7
  rw [z45] at h8
  obtain ⟨k0, rfl⟩ := trod_one (c := c0) h0
  obtain ⟨k1, rfl⟩ := trod_one (c := c1) h1
  obtain ⟨k2, rfl⟩ := trod_one (c := c2) h2
  obtain ⟨k3, rfl⟩ := trod_one (c := c3) h3
  obtain ⟨k4, rfl⟩ := trod_one (c := c4) h4
  obtain ⟨k5, rfl⟩ := trod_one (c := c5) h5
  obtain ⟨k6, rfl⟩ := trod_one (c := c6) h6
  obtain ⟨k7, rfl⟩ := trod_one (c := c7) h7
  obtain ⟨xs, m, rfl, rfl, _, hxs, ha⟩ := DataW.trod_array u45 h8
  obtain ⟨a0, a1, a2, rfl⟩ := len3 hxs
  have g0 := ha 0 (by omega)
  have g1 := ha 1 (by omega)
  have g2 := ha 2 (by omega)
  rw [z3] at g0 g1 g2
  obtain ⟨k8, rfl⟩ := trod_one (c := c8) (y := a0) g0
  obtain ⟨k9, rfl⟩ := trod_one (c := c9) (y := a1) g1
  obtain ⟨k10, rfl⟩ := trod_one (c := c10) (y := a2) g2
  refine ⟨⟨k0, k1, k2, k3, k4, k5, k6, k7, k8, k9, k10⟩, ?_, ?_⟩
  · simp only [insc]
    repeat first | exact .nil | refine .cons _ _ _ _ (.int _ _) ?_
  · intro v hv
    simp only [insc, List.mem_cons, List.not_mem_nil, or_false] at hv
    rcases hv with rfl | rfl | rfl | rfl | rfl | rfl | rfl | rfl | rfl | rfl | rfl <;> rfl
theorem encN_solid {α : Type} {z : Bool} {e : α → List AV} {sz : Nat} {l : List α} : (encN z e sz l).solid = true := (encN_sl (z := z) (e := e) (sz := sz) (l := l)).solid
theorem one_VRs {C : Ctx} {c : Value} {x : AV} (h : VRs C [c] [x]) : VR C c x := by cases h; assumption
theorem opens_block : Opens enc w sp 35 blkc := by
  intro fuel cs x h
  obtain ⟨hl, n, hf⟩ := trod_field u35 f35 h
  rw [z35] at hl
  obtain ⟨c0, c1, c2, rfl⟩ := len3 hl
  obtain ⟨y0, h0⟩ := hf 0 4 0 rfl
  obtain ⟨y1, h1⟩ := hf 1 32 1 rfl
  obtain ⟨y2, h2⟩ := hf 2 33 2 rfl
  rw [z4] at h0
  rw [z32] at h1
  rw [z33] at h2
  obtain ⟨b, hb, _⟩ := DataW.trod_bool u4 h0
  obtain rfl : c0 = .bool b := by simpa using hb
  obtain ⟨⟨zi, li⟩, hi, _⟩ := opens_slice u32 z47 (by omega) (fun _ => rfl) opens_instr n [c1] y1 h1
  obtain ⟨⟨zo, lo⟩, ho, _⟩ := opens_slice u33 z3 (by omega) (fun _ => rfl) (opens_int u3) n [c2] y2 h2
  refine ⟨⟨b, li, zi, lo, zo⟩, ?_, ?_⟩
  · exact .cons _ _ _ _ (.bool b) (.cons _ _ _ _ (one_VRs hi) (.cons _ _ _ _ (one_VRs ho) .nil))
  · intro v hv
    simp only [blkc, List.mem_cons, List.not_mem_nil, or_false] at hv
    rcases hv with rfl | rfl | rfl
    · rfl
    · exact encN_solid
    · exact encN_solid
theorem opens_fun : Opens enc w sp 31 func := by
  intro fuel cs x h
  obtain ⟨hl, n, hf⟩ := trod_field u31 f31 h
  rw [z31] at hl
  obtain ⟨c0, c1, c2, rfl⟩ := len3 hl
  obtain ⟨y0, h0⟩ := hf 0 3 0 rfl
  obtain ⟨y1, h1⟩ := hf 1 3 1 rfl
  obtain ⟨y2, h2⟩ := hf 2 29 2 rfl
  rw [z3] at h0 h1
  rw [z29] at h2
  obtain ⟨k0, rfl⟩ := trod_one (c := c0) h0
  obtain ⟨k1, rfl⟩ := trod_one (c := c1) h1
  obtain ⟨⟨zb, lb⟩, hb, _⟩ := opens_slice u29 z35 (by omega) (fun _ => rfl) opens_block n [c2] y2 h2
  refine ⟨⟨k0, k1, lb, zb⟩, ?_, ?_⟩
  · exact .cons _ _ _ _ (.int _ _) (.cons _ _ _ _ (.int _ _) (.cons _ _ _ _ (one_VRs hb) .nil))
  · intro v hv
    simp only [func, List.mem_cons, List.not_mem_nil, or_false] at hv
    rcases hv with rfl | rfl | rfl
    · rfl
    · rfl
    · exact encN_solid
theorem opens_prog : Opens enc w sp 24 (fun p : Prg => [p.funsV]) := by
  intro fuel cs x h
  obtain ⟨hl, n, hf⟩ := trod_field u24 f24 h
  rw [z24] at hl
  obtain ⟨c0, rfl⟩ := List.length_eq_one_iff.1 hl
  obtain ⟨y0, h0⟩ := hf 0 22 0 rfl
  rw [z22] at h0
  obtain ⟨⟨zb, lb⟩, hb, hs⟩ := opens_slice u22 z31 (by omega) (fun _ => rfl) opens_fun n [c0] y0 h0
  exact ⟨⟨lb, zb⟩, hb, hs⟩
end
end Go.Proofs.YtchkknkjhiaooaaGreatDoor.Vm
