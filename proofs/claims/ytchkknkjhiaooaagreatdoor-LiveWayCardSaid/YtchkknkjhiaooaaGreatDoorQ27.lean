/- A part of the proof: Hh Ia Ib. -/
import Derived.Carry
import Derived.ChangeArms
import Derived.OpenShut
import Derived.ChangeSlices
import Derived.Test.YtchkknkjhiaooaaGreatDoorQ26
namespace Go.Proofs.YtchkknkjhiaooaaGreatDoor.Vm
open Go Go.RowKit
set_option linter.unusedVariables false
set_option linter.unusedSimpArgs false
variable {N : Nat} {g : Glob}
theorem isB_eq {s : BSet} (hn : s.n = 6) {v : Nat} (hv : v < 6) (d : Int) : (s.isB d && decide ((v : Int) = d)) = decide ((v : Int) = d) := by
  by_cases h : (v : Int) = d
  · subst h; simp [BSet.isB, hn]; omega
  · simp [h]
theorem live_mem (x : Ins) {s : BSet} (hs : s.OK) (hn : s.n = 6) {v : Nat} (hv : v < 6) : (x.live s).mem v = ((s.mem v && !decide ((v : Int) = x.def)) || decide ((v : Int) ∈ x.uses)) := by
  rw [Ins.live, BSet.or_mem (BSet.without_ok hs _) (BSet.ofL_ok hs.n _), BSet.ofL_mem hs.n, hn, BSet.mem_without hs, isB_eq hn hv]
  simp [hv]
theorem foldr_live_mem (l : List Ins) {s : BSet} (hs : s.OK) (hn : s.n = 6) {v : Nat} (hv : v < 6) : (l.foldr Ins.live s).mem v = ((l.foldr Ins.live (BSet.new 6)).mem v || (s.mem v && !(l.foldr (fun i s => s.with i.def) (BSet.new 6)).mem v)) := by
  have h6 : (BSet.new 6).OK := BSet.new_ok (by omega)
  induction l with
  | nil => simp [BSet.new_mem]
  | cons x l ih =>
    have o1 := foldr_live_ok l hs
    have o2 := foldr_live_ok l h6
    have o3 := killTo_ok l h6 l.length
    rw [killTo_all] at o3
    rw [List.foldr_cons, List.foldr_cons, List.foldr_cons, live_mem x o1.1 (o1.2.trans hn) hv, live_mem x o2.1 o2.2 hv, BSet.mem_with o3.1, isB_eq o3.2 hv, ih]
    cases (List.foldr Ins.live (BSet.new 6) l).mem v <;> cases s.mem v <;> cases (List.foldr (fun i s => s.with i.def) (BSet.new 6) l).mem v <;> cases decide ((v : Int) = x.def) <;> cases decide ((v : Int) ∈ x.uses) <;> rfl
theorem Fun.at_zero (f : Fun) (b : Blk) : f.at b 0 = b.eval (sol f.blks) := by
  have hg := sol_good f.blks
  have h1 := f.at_ok b 0
  have h2 := b.eval_ok hg
  have hb := bigOr_ok hg b.out
  refine BSet.ext h1.1 h2.1 (by rw [h1.2, h2.2]) fun v hv => ?_
  rw [h1.2] at hv
  rw [Fun.at, List.drop_zero, foldr_live_mem _ hb.1 hb.2 hv, Blk.eval_mem b hg, bigOr_mem hg]
  rfl
theorem Fun.at_sol {f : Fun} {j : Nat} {b : Blk} (hb : f.blks[j]? = some b) : f.at b 0 = solAt f.blks j := by rw [f.at_zero, sol_fix hb]
theorem at_blk {p : Prg} {i : Int} {f : Fun} (hf : p.fn i = some f) {j : Nat} {b : Blk} (hb : f.blks[j]? = some b) (hon : b.on = true) {k : Nat} (hk : k ≤ b.ins.length) : p.at i j k = f.at b k := by
  have h : f.blk (j : Int) = some b := by
    have : f.live (j : Int) = true := by simp [Fun.live, hb, hon]
    simp [Fun.blk, this, hb]
  unfold Prg.at
  rw [hf]
  simp only [h]
  rw [if_pos (by omega)]
  rfl
theorem law_LiveWay (p : Prg) (i : Int) : Ret P (gl N) false 3 [encP p, .int .i64 i] (.bool true) := by
  refine Ret.in c3 (by simp) ?_
  simp [k3]
  refine (awake_ret).use (n := 9) (by rfl) rfl ?_
  simp
  refine (ref06_Few p).use (n := 9) (by simp [mapOpt, pict_stab p.funsS.stab]) (by simp [solids, AV.solid, p.funsS.solid]) ?_
  simp
  cases hfew : p.few
  · simp
    exact RK.eq rfl rfl
  have hp := Prg.few_fit hfew
  simp
  refine (prog_Sane p hp).use (n := 9) (by simp [mapOpt, pict_stab p.funsS.stab]) (by simp [solids, AV.solid, p.funsS.solid]) ?_
  cases hsane : p.sane
  · simp
    exact RK.eq rfl rfl
  simp
  refine gua_decF (fun h1 => ?_) (fun h1 => ?_) <;> simp [h1, p.funsS.len]
  · refine bra_dec (fun h2 => ?_) (fun h2 => ?_) <;> simp [h2]
    · exact RK.eq rfl rfl
    obtain ⟨im, rfl⟩ : ∃ n : Nat, i = (n : Int) := ⟨i.toNat, by omega⟩
    obtain ⟨f, hfi⟩ : ∃ f, p.funs[im]? = some f := ⟨_, List.getElem?_eq_getElem (by omega)⟩
    have hf : p.fn (im : Int) = some f := by
      unfold Prg.fn
      rw [if_pos ⟨by omega, hsane⟩]; exact hfi
    have hok := fn_ok hf
    have hl := hok.len
    have hout := hok.out
    have hsol := sol_good f.blks
    have hof : FSl setc 2 (encF setc 2 (outsOf f.blks)) (outsOf f.blks) := encF_sl
    have hol : (outsOf f.blks).length = f.blks.length := by simp [outsOf]
    refine (live_Out p im hp hf).use (n := 9) (by simp [mapOpt, pict_stab p.funsS.stab]) (by simp [solids, AV.solid, p.funsS.solid]) ?_
    simp
    refine W.whileI (fun (j : Nat) F S => j ≤ f.blks.length ∧ F 1 = .int .i64 im ∧ F 2 = .ptr 0 0 0 ∧ F 5 = .bool true ∧ F 6 = encF setc 2 (outsOf f.blks) ∧ F 7 = .int .i64 j ∧ S.obj 0 = some (.row 1 [[p.funsV]]) ∧ 1 ≤ S.next) (fun j => f.blks.length - j) ?_ 0 _ _ ?_
    · rintro j F S ⟨hj, f1, f2, f5, f6, f7, s0, sn⟩
      have hfx := p.funsS.idx hfi
      simp [f1, f2, f7, s0, hfx, f.blksS.len]
      by_cases hlt : j < f.blks.length
      · have e4 : IntKind.i64.wrap ((j : Int) + 1) = ((j + 1 : Nat) : Int) := by rw [wrap_in (by omega)]; omega
        obtain ⟨b, hb⟩ : ∃ b, f.blks[j]? = some b := ⟨_, List.getElem?_eq_getElem hlt⟩
        have hbm := List.mem_of_getElem? hb
        simp [hlt, f1, f2, f7, s0, hfx, f.blksS.idx hb]
        cases hon : b.on
        · simp [f1, f2, f5, f6, f7, s0, e4, show ¬ 0 = S.next by omega]
          exact ⟨j + 1, by omega, by omega, by omega⟩
        · simp
          refine (new_ret).use (n := 9) ?_ rfl ?_ <;> simp
          let sk : Nat → BSet := fun k => (b.out.take k).foldl (fun s j => s.or ((sol f.blks).getD j.toNat (BSet.new 6))) (BSet.new 6)
          have hsk : ∀ k, (sk k).OK ∧ (sk k).n = 6 := fun k => by
            obtain ⟨h1, h2, _⟩ := bigOr_fold hsol (b.out.take k) (BSet.new 6) (BSet.new_ok (by omega)) rfl
            exact ⟨h1, h2⟩
          have hbo := hout b hbm
          have hbk := hok.blk hbm
          refine W.whileI (fun (k : Nat) F' S' => k ≤ b.out.length ∧ F' 1 = .int .i64 im ∧ F' 2 = .ptr 0 0 0 ∧ F' 5 = .bool true ∧ F' 6 = encF setc 2 (outsOf f.blks) ∧ F' 7 = .int .i64 j ∧ F' 8 = .ptr S.next 0 0 ∧ F' 9 = .ptr (S.next + 1) 0 0 ∧ F' 10 = .int .i64 k ∧
            S'.obj 0 = some (.row 1 [[p.funsV]]) ∧ S'.next = S.next + 2 ∧ S'.obj S.next = some (.row 3 [blkc b]) ∧ S'.obj (S.next + 1) = some (.row 2 [setc (sk k)])) (fun k => b.out.length - k) ?_ 0 _ _ ?_
          · rintro k F' S' ⟨hk, f1, f2, f5, f6, f7, f8, f9, f10, t0, tn, tA, tB⟩
            have hbl : b.outV.cells = [b.outV] := b.outS.cells
            simp [f8, f10, tA, b.outS.len]
            by_cases hltk : k < b.out.length
            · obtain ⟨jj, hj⟩ : ∃ j, b.out[k]? = some j := ⟨_, List.getElem?_eq_getElem hltk⟩
              have hlj := hbk.2.2.1 jj (List.mem_of_getElem? hj)
              obtain ⟨hj0, hjn, b', hb', hon'⟩ := live_lt hlj
              obtain ⟨jn, rfl⟩ : ∃ n : Nat, jj = (n : Int) := ⟨jj.toNat, by omega⟩
              simp only [Int.toNat_natCast] at hb'
              have hat : p.at im jn 0 = solAt f.blks jn := by
                have h0 := at_blk hf hb' hon' (k := 0) (by omega)
                rw [Fun.at_sol hb'] at h0
                simpa using h0
              have hato := p.at_ok im jn 0
              have e5 : IntKind.i64.wrap ((k : Int) + 1) = ((k + 1 : Nat) : Int) := by rw [wrap_in (by omega)]; omega
              have hst : sk (k + 1) = (sk k).or (p.at im jn 0) := by
                show (b.out.take (k + 1)).foldl _ _ = _
                rw [foldl_take_succ _ _ _ _ _ hj]
                simp only [List.getD_eq_getElem?_getD, Int.toNat_natCast, sol_get (show jn < f.blks.length by omega), Option.getD_some, hat]
                rfl
              simp [hltk]
              refine Dra.auto [] mix ?_ ?_
              · kernel_rfl
              simp [classes, f1, f2, f8, f9, f10, t0, tA, tB, b.outS.idx hj, intc]
              refine (live_At p im jn 0 hp).b (n := 9) (by simp [mapOpt, pict_stab p.funsS.stab]) (by simp [solids, AV.solid, p.funsS.solid]) ?_
              simp
              refine (union_ret (hsk k).1 hato.1).b (n := 9) (by simp [mapOpt]) rfl ?_
              simp [f1, f2, f5, f6, f7, f8, f9, f10, t0, tA, tB, e5]
              exact ⟨k + 1, by omega, by omega, by omega, tn, by rw [hst], by rw [hst]⟩
            · have : k = b.out.length := by omega
              subst this
              have hfin : sk b.out.length = bigOr (sol f.blks) b.out := by
                show (b.out.take b.out.length).foldl _ _ = _
                rw [List.take_length]; rfl
              rw [hfin] at tB
              have hbig := bigOr_ok hsol b.out
              have hat : p.at im j (b.ins.length : Nat) = bigOr (sol f.blks) b.out := by
                rw [at_blk hf hb hon (Nat.le_refl _), Fun.at, List.drop_length]; rfl
              have hoj : (outsOf f.blks)[j]? = some (bigOr (sol f.blks) b.out) := by simp only [outsOf, List.getElem?_map, hb]; rfl
              have hlej : ¬ ((f.blks.length : Int) ≤ (j : Int)) := by omega
              simp
              refine Dra.auto [] mix ?_ ?_
              · kernel_rfl
              simp [classes, f1, f2, f6, f7, f8, f9, t0, tA, tB, hof.len, hol, hlej, hof.idx hoj]
              refine (bits_Same _ _ hbig.1 hbig.1).b (n := 9) (by simp [mapOpt]) rfl ?_
              simp [f1, f2, f7, f8, f9, t0, tA, tB, b.insS.len]
              refine (live_At p im j (b.ins.length : Nat) hp).b (n := 9) (by simp [mapOpt, pict_stab p.funsS.stab]) (by simp [solids, AV.solid, p.funsS.solid]) ?_
              rw [hat]
              simp
              refine (bits_Same _ _ hbig.1 hbig.1).b (n := 9) (by simp [mapOpt]) rfl ?_
              simp
              refine W.whileI (fun (k : Nat) F' S' => k ≤ b.ins.length ∧ F' 1 = .int .i64 im ∧ F' 2 = .ptr 0 0 0 ∧ F' 5 = .bool true ∧ F' 6 = encF setc 2 (outsOf f.blks) ∧ F' 7 = .int .i64 j ∧ F' 8 = .ptr S.next 0 0 ∧ F' 11 = .int .i64 k ∧
                S'.obj 0 = some (.row 1 [[p.funsV]]) ∧ S.next + 2 ≤ S'.next ∧ S'.obj S.next = some (.row 3 [blkc b])) (fun k => b.ins.length - k) ?_ 0 _ _ ?_
              · rintro k F' S' ⟨hk, f1, f2, f5, f6, f7, f8, f11, t0, tn, tA⟩
                simp [f8, f11, tA, b.insS.len]
                by_cases hltk : k < b.ins.length
                · obtain ⟨x, hx⟩ : ∃ x, b.ins[k]? = some x := ⟨_, List.getElem?_eq_getElem hltk⟩
                  have hil : b.ins.length ≤ 16 := hbk.2.2.2.1
                  have e5 : IntKind.i64.wrap ((k : Int) + 1) = ((k + 1 : Nat) : Int) := by rw [wrap_in (by omega)]; omega
                  have hat1 : p.at im j (k + 1 : Nat) = f.at b (k + 1) := at_blk hf hb hon (by omega)
                  have hat0 : p.at im j k = f.at b k := at_blk hf hb hon (by omega)
                  have o1 := f.at_ok b (k + 1)
                  have hlive : f.at b k = x.live (f.at b (k + 1)) := by
                    obtain ⟨h1, h2⟩ := List.getElem?_eq_some_iff.1 hx
                    show (b.ins.drop k).foldr Ins.live _ = x.live ((b.ins.drop (k + 1)).foldr Ins.live _)
                    rw [List.drop_eq_getElem_cons h1, h2]; rfl
                  have hw := (BSet.without_ok o1.1 x.def)
                  have hwn : ((f.at b (k + 1)).without x.def).n = 6 := by rw [BSet.without_n]; exact o1.2
                  have huf : FSl intc 1 (encF intc 1 x.uses) x.uses := encF_sl
                  have hul := uses_len x
                  have hof6 : (BSet.ofL 6 x.uses).OK := BSet.ofL_ok (by omega) _
                  simp [hltk, f1, f2, f7, f8, f11, t0, e5]
                  refine (live_At p im j (k + 1 : Nat) hp).use (n := 9) (by simp [mapOpt, pict_stab p.funsS.stab]) (by simp [solids, AV.solid, p.funsS.solid]) ?_
                  rw [hat1]
                  simp
                  refine Dra.auto [] mix ?_ ?_
                  · kernel_rfl
                  simp [classes, f1, f2, f7, f8, f11, t0, tA, b.insS.idx hx, show ¬ S.next = S'.next by omega]
                  refine (instr_Def x).b (n := 9) (by rfl) rfl ?_
                  simp
                  refine ((bits_Without (f.at b (k + 1)) x.def o1.1).setR (b := (f.at b (k + 1)).without x.def) (by rw [BSet.without_n]) (by rw [hw.len, BSet.without_n])).b (n := 9) (by simp [mapOpt]) rfl ?_
                  simp [f8, f11, tA, b.insS.idx hx, show ¬ S.next = S'.next by omega]
                  refine (instr_Uses x).ret.b (n := 9) (by rfl) rfl ?_
                  simp
                  refine ((bits_Of 6 x.uses _ huf (by omega) (by omega)).setR (b := BSet.ofL 6 x.uses) (by rw [BSet.ofL_n]) (by rw [hof6.len, BSet.ofL_n])).b (n := 9) (by simp [mapOpt, pict_stab huf.stab]) rfl ?_
                  simp
                  refine (union_ret hw hof6).b (n := 9) (by simp [mapOpt]) rfl ?_
                  rw [show ((f.at b (k + 1)).without x.def).or (BSet.ofL 6 x.uses) = f.at b k by rw [hlive, Ins.live, o1.2]]
                  simp
                  have o0 := f.at_ok b k
                  refine Dra.auto [] mix ?_ ?_
                  · kernel_rfl
                  simp [classes, f1, f2, f7, f11, t0, show ¬ 0 = S'.next by omega, show ¬ 0 = S'.next + 1 by omega]
                  refine (live_At p im j k hp).b (n := 9) (by simp [mapOpt, pict_stab p.funsS.stab]) (by simp [solids, AV.solid, p.funsS.solid]) ?_
                  rw [hat0]
                  simp
                  refine (bits_Same _ _ o0.1 o0.1).b (n := 9) (by simp [mapOpt]) rfl ?_
                  simp [f1, f2, f5, f6, f7, f8, f11, e5, t0, tA, show ¬ 0 = S'.next by omega, show ¬ 0 = S'.next + 1 by omega, show ¬ S.next = S'.next by omega, show ¬ S.next = S'.next + 1 by omega]
                  exact ⟨k + 1, by omega, by omega, by omega, by omega⟩
                · have : k = b.ins.length := by omega
                  subst this
                  simp [f1, f2, f5, f6, f7, e4]
                  exact ⟨j + 1, by omega, by omega, by omega, t0, by omega⟩
              · simp [f1, f2, f5, f6, f7, f8, t0, tA, tn]
          · simp [f1, f2, f5, f6, f7, s0, hon, show ¬ 0 = S.next by omega, sk]
      · have : j = f.blks.length := by omega
        subst this
        simp [f5]
        exact RK.eq rfl rfl
    · simp
  · exact RK.eq rfl rfl
end Go.Proofs.YtchkknkjhiaooaaGreatDoor.Vm
namespace Go.Proofs.YtchkknkjhiaooaaGreatDoor.Vm
open Go Go.RowKit Go.ChangeShapes Go.WideShapes
set_option linter.unusedVariables false
set_option linter.unusedSimpArgs false
section
variable {H : Type} {enc : TypeId × Value → H} {w : World} {sp : Nat → Bool}
noncomputable def fieldsOf (t : TypeId) : Array Field := match P.underlying t with | some (.struct fs) => fs | _ => #[]
noncomputable def fieldsAt (t : TypeId) : List (TypeId × Nat) := (fieldsOf t).toList.map fun f => (f.type, f.offset)
theorem trod_field {t : TypeId} {fuel : Nat} {cs : List Value} {x : DataW H × List MemPlace} {L : List (TypeId × Nat)} (ht : P.underlying t = some (.struct (fieldsOf t))) (hL : fieldsAt t = L) (h : DataW.trod enc P w 0 sp true fuel t cs = some x) :
    cs.length = P.cellsOf t ∧ ∃ n, ∀ (i : Nat) (u : TypeId) (o : Nat), L[i]? = some (u, o) → ∃ y, DataW.trod enc P w 0 sp true n u ((cs.drop o).take (P.cellsOf u)) = some y := by
  obtain ⟨xs, n, rfl, rfl, h1, h2, h3⟩ := DataW.trod_struct ht h
  refine ⟨h1, n, fun i u o hi => ?_⟩
  rw [← hL, fieldsAt, List.getElem?_map] at hi
  cases hf : (fieldsOf t).toList[i]? with
  | none => rw [hf] at hi; cases hi
  | some f =>
    rw [hf] at hi
    simp at hi
    obtain ⟨rfl, rfl⟩ := hi
    have hf2 : (fieldsOf t)[i]? = some f := by simpa using hf
    have hlt : i < (fieldsOf t).size := (Array.getElem?_eq_some_iff.1 hf2).1
    rw [h3 i f hf2]
    exact ⟨_, List.getElem?_eq_getElem (by omega)⟩
def C0 (w : World) : Ctx := ⟨w, w.heap.size, fun _ => False, fun _ => none, St.empty⟩
theorem C0_bad {w : World} {b : Nat} : ¬ (C0 w).bad b := by
  rintro (⟨_, h⟩ | ⟨o, l, x, h, _⟩)
  · exact h
  · cases h
def Opens {α : Type} (enc : TypeId × Value → H) (w : World) (sp : Nat → Bool) (t : TypeId) (e : α → List AV) : Prop := ∀ (fuel : Nat) (cs : List Value) (x : DataW H × List MemPlace), DataW.trod enc P w 0 sp true fuel t cs = some x → ∃ a : α, VRs (C0 w) cs (e a) ∧ ∀ v ∈ e a, v.solid = true
theorem opens_int {t : TypeId} (ht : P.underlying t = some (.int .i64)) : Opens enc w sp t intc := by
  intro fuel cs x h
  obtain ⟨n, rfl, _, _⟩ := DataW.trod_int ht h
  exact ⟨n, .cons _ _ _ _ (.int _ _) .nil, fun v hv => by simp [intc] at hv; subst hv; rfl⟩
theorem plainAdd (b q k : Nat) : (⟨b, q, none⟩ : Addr).add k = ⟨b, q + k, none⟩ := by
  unfold Addr.add
  split
  · subst_vars; rfl
  · rfl
theorem VRs.app {C : Ctx} : ∀ {vs us : List Value} {xs ys : List AV}, VRs C vs xs → VRs C us ys → VRs C (vs ++ us) (xs ++ ys)
  | _, _, _, _, .nil, h2 => h2
  | _, _, _, _, .cons v x vs xs h hs, h2 => .cons v x _ _ h (VRs.app hs h2)
theorem opens_slice {α : Type} {t u : TypeId} {e : α → List AV} {sz : Nat} (ht : P.underlying t = some (.slice u)) (hc : P.cellsOf u = sz) (hsz : 0 < sz) (he : ∀ a, (e a).length = sz) (ho : Opens enc w sp u e) : Opens enc w sp t (fun p : Bool × List α => [encN p.1 e sz p.2]) := by
  intro fuel cs x h
  rcases DataW.trod_slice ht h with ⟨rfl, _⟩ | ⟨a, len, cap, elems, rest, n, rfl, rfl, rfl, hb, hl, hm, hlen, hel, _, _⟩
  · exact ⟨(true, []), .cons _ _ _ _ (by simp [encN]; exact .nilsl none) .nil, fun v hv => by simp [encN] at hv; subst hv; rfl⟩
  · by_cases h0 : len = 0
    · subst h0
      exact ⟨(false, []), .cons _ _ _ _ (by simp [encN, els]; exact .fnil (some a) cap sz) .nil, fun v hv => by simp [encN, els] at hv; subst hv; rfl⟩
    · obtain ⟨blk, off, spot⟩ := a
      have row : ∀ i, i < len → ∃ cs y, cs.length = sz ∧ (∀ j, j < sz → w.cell? ((⟨blk, off, spot⟩ : Addr).add (i * sz) |>.add j) = cs[j]?) ∧ DataW.trod enc P w 0 sp true n u cs = some y := by
        intro i hi
        have h1 := hel i hi
        rw [hc, List.getElem?_eq_getElem (by omega)] at h1
        cases hcs : w.cells? 0 ((⟨blk, off, spot⟩ : Addr).add (i * sz)) sz with
        | none => rw [hcs] at h1; cases h1
        | some cs =>
          rw [hcs] at h1
          obtain ⟨_, k1, k2⟩ := World.cells?_some hcs
          exact ⟨cs, _, k1, k2, h1⟩
      have hspot : spot = none := by
        obtain ⟨cs, y, k1, k2, _⟩ := row 0 (by omega)
        have g0 := k2 0 hsz
        obtain ⟨c0, hc0⟩ : ∃ c0, cs[0]? = some c0 := ⟨_, List.getElem?_eq_getElem (by omega)⟩
        rw [hc0] at g0
        simpa [Addr.add] using World.cell?_spot g0
      subst hspot
      have key : ∀ m, m ≤ len → ∃ (l : List α) (vs : List Value), l.length = m ∧ vs.length = m * sz ∧ Cells w blk off vs ∧ VRs (C0 w) vs (els e l).flatten ∧ ∀ v ∈ (els e l).flatten, v.solid = true := by
        intro m
        induction m with
        | zero => intro _; exact ⟨[], [], rfl, by simp, (fun j v h => by simp at h), by simp [els]; exact .nil, fun v h => by simp [els] at h⟩
        | succ m ih =>
          intro hm
          obtain ⟨l, vs, k1, k2, k3, k4, k5⟩ := ih (by omega)
          obtain ⟨cs, y, c1, c2, c3⟩ := row m (by omega)
          obtain ⟨a, a1, a2⟩ := ho n cs y c3
          refine ⟨l ++ [a], vs ++ cs, by simp [k1], by simp [k2, c1, Nat.add_mul], ?_, ?_, ?_⟩
          · intro j v hj
            by_cases hjl : j < vs.length
            · rw [List.getElem?_append_left hjl] at hj
              exact k3 j v hj
            · rw [List.getElem?_append_right (by omega)] at hj
              have hlt := (List.getElem?_eq_some_iff.1 hj).1
              have h2 := c2 (j - vs.length) (by omega)
              rw [hj] at h2
              have ea : ((⟨blk, off, none⟩ : Addr).add (m * sz)).add (j - vs.length) = ⟨blk, off + j, none⟩ := by
                rw [plainAdd, plainAdd, show off + m * sz + (j - vs.length) = off + j by rw [← k2]; omega]
              rwa [ea] at h2
          · have : (els e (l ++ [a])).flatten = (els e l).flatten ++ e a := by simp [els]
            rw [this]
            exact k4.app a1
          · intro v hv
            have : (els e (l ++ [a])).flatten = (els e l).flatten ++ e a := by simp [els]
            rw [this, List.mem_append] at hv
            rcases hv with hv | hv
            · exact k5 v hv
            · exact a2 v hv
      obtain ⟨l, vs, k1, k2, k3, k4, k5⟩ := key len (Nat.le_refl _)
      have hblk : blk < w.heap.size := by
        obtain ⟨cs, y, c1, c2, _⟩ := row 0 (by omega)
        have g0 := c2 0 hsz
        obtain ⟨c0, hc0⟩ : ∃ c0, cs[0]? = some c0 := ⟨_, List.getElem?_eq_getElem (by omega)⟩
        rw [hc0] at g0
        have e0 : ((⟨blk, off, none⟩ : Addr).add (0 * sz)).add 0 = ⟨blk, off, none⟩ := by simp [Addr.add]
        rw [e0] at g0
        unfold World.cell? at g0
        cases hh : w.heap[blk]? with
        | none => simp [hh] at g0
        | some o => exact (Array.getElem?_eq_some_iff.1 hh).1
      have hen : encN false e sz l = .fsl sz (els e l) := by simp [encN]
      refine ⟨(false, l), .cons _ _ _ _ ?_ .nil, ?_⟩
      · show VR (C0 w) _ (encN false e sz l)
        rw [hen]
        have hll : (els e l).length = len := by simp [els, k1]
        rw [← hll]
        refine .fsl blk off cap sz vs (els e l) k3 ?_ k4 k5 C0_bad hblk (by omega)
        intro x hx
        simp only [els, List.mem_map] at hx
        obtain ⟨a, _, rfl⟩ := hx
        exact he a
      · intro v hv
        simp only [List.mem_singleton] at hv
        subst hv
        rw [hen]
        simp only [AV.solid]
end
end Go.Proofs.YtchkknkjhiaooaaGreatDoor.Vm
namespace Go.Proofs.YtchkknkjhiaooaaGreatDoor.Vm
open Go Go.RowKit Go.ChangeShapes Go.WideShapes
set_option linter.unusedVariables false
set_option linter.unusedSimpArgs false
section
variable {H : Type} {enc : TypeId × Value → H} {w : World} {sp : Nat → Bool}
theorem u3 : P.underlying 3 = some (.int .i64) := by kernel_rfl
theorem u4 : P.underlying 4 = some .bool := by kernel_rfl
theorem u22 : P.underlying 22 = some (.slice 31) := by kernel_rfl
theorem u29 : P.underlying 29 = some (.slice 35) := by kernel_rfl
theorem u32 : P.underlying 32 = some (.slice 47) := by kernel_rfl
theorem u33 : P.underlying 33 = some (.slice 3) := by kernel_rfl
theorem u45 : P.underlying 45 = some (.array 3 3) := by kernel_rfl
theorem u24 : P.underlying 24 = some (.struct (fieldsOf 24)) := by kernel_rfl
theorem u31 : P.underlying 31 = some (.struct (fieldsOf 31)) := by kernel_rfl
theorem u35 : P.underlying 35 = some (.struct (fieldsOf 35)) := by kernel_rfl
theorem u47 : P.underlying 47 = some (.struct (fieldsOf 47)) := by kernel_rfl
theorem f24 : fieldsAt 24 = [(22, 0)] := by kernel_rfl
theorem f31 : fieldsAt 31 = [(3, 0), (3, 1), (29, 2)] := by kernel_rfl
theorem f35 : fieldsAt 35 = [(4, 0), (32, 1), (33, 2)] := by kernel_rfl
theorem f47 : fieldsAt 47 = [(3, 0), (3, 1), (3, 2), (3, 3), (3, 4), (3, 5), (3, 6), (3, 7), (45, 8)] := by kernel_rfl
theorem z3 : P.cellsOf 3 = 1 := by kernel_rfl
theorem z4 : P.cellsOf 4 = 1 := by kernel_rfl
theorem z22 : P.cellsOf 22 = 1 := by kernel_rfl
theorem z29 : P.cellsOf 29 = 1 := by kernel_rfl
theorem z32 : P.cellsOf 32 = 1 := by kernel_rfl
theorem z33 : P.cellsOf 33 = 1 := by kernel_rfl
theorem z45 : P.cellsOf 45 = 3 := by kernel_rfl
theorem z24 : P.cellsOf 24 = 1 := by kernel_rfl
theorem z31 : P.cellsOf 31 = 3 := by kernel_rfl
theorem z35 : P.cellsOf 35 = 3 := by kernel_rfl
theorem z47 : P.cellsOf 47 = 11 := by kernel_rfl
theorem trod_one {n : Nat} {c : Value} {y : DataW H × List MemPlace} (h : DataW.trod enc P w 0 sp true n 3 [c] = some y) : ∃ k, c = .int .i64 k := by
  obtain ⟨k, hk, _⟩ := DataW.trod_int u3 h
  exact ⟨k, by simpa using hk⟩
theorem len11 {α : Type} {l : List α} (h : l.length = 11) : ∃ a0 a1 a2 a3 a4 a5 a6 a7 a8 a9 a10, l = [a0, a1, a2, a3, a4, a5, a6, a7, a8, a9, a10] := by
  match l, h with
  | [a0, a1, a2, a3, a4, a5, a6, a7, a8, a9, a10], _ => exact ⟨a0, a1, a2, a3, a4, a5, a6, a7, a8, a9, a10, rfl⟩
theorem len3 {α : Type} {l : List α} (h : l.length = 3) : ∃ a0 a1 a2, l = [a0, a1, a2] := by
  match l, h with
  | [a0, a1, a2], _ => exact ⟨a0, a1, a2, rfl⟩
theorem opens_instr : Opens enc w sp 47 insc := by
  intro fuel cs x h
  obtain ⟨hl, n, hf⟩ := trod_field u47 f47 h
  rw [z47] at hl
  obtain ⟨c0, c1, c2, c3, c4, c5, c6, c7, c8, c9, c10, rfl⟩ := len11 hl
  obtain ⟨y0, h0⟩ := hf 0 3 0 rfl
  obtain ⟨y1, h1⟩ := hf 1 3 1 rfl
  obtain ⟨y2, h2⟩ := hf 2 3 2 rfl
  obtain ⟨y3, h3⟩ := hf 3 3 3 rfl
  obtain ⟨y4, h4⟩ := hf 4 3 4 rfl
  obtain ⟨y5, h5⟩ := hf 5 3 5 rfl
  obtain ⟨y6, h6⟩ := hf 6 3 6 rfl
  obtain ⟨y7, h7⟩ := hf 7 3 7 rfl
  obtain ⟨y8, h8⟩ := hf 8 45 8 rfl
  rw [z3] at h0 h1 h2 h3 h4 h5 h6 h7
  rw [z45] at h8
  obtain ⟨k0, rfl⟩ := trod_one (c := c0) h0
  obtain ⟨k1, rfl⟩ := trod_one (c := c1) h1
  obtain ⟨k2, rfl⟩ := trod_one (c := c2) h2
  obtain ⟨k3, rfl⟩ := trod_one (c := c3) h3
  obtain ⟨k4, rfl⟩ := trod_one (c := c4) h4
  obtain ⟨k5, rfl⟩ := trod_one (c := c5) h5
  obtain ⟨k6, rfl⟩ := trod_one (c := c6) h6
  obtain ⟨k7, rfl⟩ := trod_one (c := c7) h7
  obtain ⟨xs, m, rfl, rfl, _, hxs, ha⟩ := DataW.trod_array u45 h8
  obtain ⟨a0, a1, a2, rfl⟩ := len3 hxs
  have g0 := ha 0 (by omega)
  have g1 := ha 1 (by omega)
  have g2 := ha 2 (by omega)
  rw [z3] at g0 g1 g2
  obtain ⟨k8, rfl⟩ := trod_one (c := c8) (y := a0) g0
  obtain ⟨k9, rfl⟩ := trod_one (c := c9) (y := a1) g1
  obtain ⟨k10, rfl⟩ := trod_one (c := c10) (y := a2) g2
  refine ⟨⟨k0, k1, k2, k3, k4, k5, k6, k7, k8, k9, k10⟩, ?_, ?_⟩
  · simp only [insc]
    repeat first | exact .nil | refine .cons _ _ _ _ (.int _ _) ?_
  · intro v hv
    simp only [insc, List.mem_cons, List.not_mem_nil, or_false] at hv
    rcases hv with rfl | rfl | rfl | rfl | rfl | rfl | rfl | rfl | rfl | rfl | rfl <;> rfl
theorem encN_solid {α : Type} {z : Bool} {e : α → List AV} {sz : Nat} {l : List α} : (encN z e sz l).solid = true := (encN_sl (z := z) (e := e) (sz := sz) (l := l)).solid
theorem one_VRs {C : Ctx} {c : Value} {x : AV} (h : VRs C [c] [x]) : VR C c x := by cases h; assumption
theorem opens_block : Opens enc w sp 35 blkc := by
  intro fuel cs x h
  obtain ⟨hl, n, hf⟩ := trod_field u35 f35 h
  rw [z35] at hl
  obtain ⟨c0, c1, c2, rfl⟩ := len3 hl
  obtain ⟨y0, h0⟩ := hf 0 4 0 rfl
  obtain ⟨y1, h1⟩ := hf 1 32 1 rfl
  obtain ⟨y2, h2⟩ := hf 2 33 2 rfl
  rw [z4] at h0
  rw [z32] at h1
  rw [z33] at h2
  obtain ⟨b, hb, _⟩ := DataW.trod_bool u4 h0
  obtain rfl : c0 = .bool b := by simpa using hb
  obtain ⟨⟨zi, li⟩, hi, _⟩ := opens_slice u32 z47 (by omega) (fun _ => rfl) opens_instr n [c1] y1 h1
  obtain ⟨⟨zo, lo⟩, ho, _⟩ := opens_slice u33 z3 (by omega) (fun _ => rfl) (opens_int u3) n [c2] y2 h2
  refine ⟨⟨b, li, zi, lo, zo⟩, ?_, ?_⟩
  · exact .cons _ _ _ _ (.bool b) (.cons _ _ _ _ (one_VRs hi) (.cons _ _ _ _ (one_VRs ho) .nil))
  · intro v hv
    simp only [blkc, List.mem_cons, List.not_mem_nil, or_false] at hv
    rcases hv with rfl | rfl | rfl
    · rfl
    · exact encN_solid
    · exact encN_solid
theorem opens_fun : Opens enc w sp 31 func := by
  intro fuel cs x h
  obtain ⟨hl, n, hf⟩ := trod_field u31 f31 h
  rw [z31] at hl
  obtain ⟨c0, c1, c2, rfl⟩ := len3 hl
  obtain ⟨y0, h0⟩ := hf 0 3 0 rfl
  obtain ⟨y1, h1⟩ := hf 1 3 1 rfl
  obtain ⟨y2, h2⟩ := hf 2 29 2 rfl
  rw [z3] at h0 h1
  rw [z29] at h2
  obtain ⟨k0, rfl⟩ := trod_one (c := c0) h0
  obtain ⟨k1, rfl⟩ := trod_one (c := c1) h1
  obtain ⟨⟨zb, lb⟩, hb, _⟩ := opens_slice u29 z35 (by omega) (fun _ => rfl) opens_block n [c2] y2 h2
  refine ⟨⟨k0, k1, lb, zb⟩, ?_, ?_⟩
  · exact .cons _ _ _ _ (.int _ _) (.cons _ _ _ _ (.int _ _) (.cons _ _ _ _ (one_VRs hb) .nil))
  · intro v hv
    simp only [func, List.mem_cons, List.not_mem_nil, or_false] at hv
    rcases hv with rfl | rfl | rfl
    · rfl
    · rfl
    · exact encN_solid
theorem opens_prog : Opens enc w sp 24 (fun p : Prg => [p.funsV]) := by
  intro fuel cs x h
  obtain ⟨hl, n, hf⟩ := trod_field u24 f24 h
  rw [z24] at hl
  obtain ⟨c0, rfl⟩ := List.length_eq_one_iff.1 hl
  obtain ⟨y0, h0⟩ := hf 0 22 0 rfl
  rw [z22] at h0
  obtain ⟨⟨zb, lb⟩, hb, hs⟩ := opens_slice u22 z31 (by omega) (fun _ => rfl) opens_fun n [c0] y0 h0
  exact ⟨⟨lb, zb⟩, hb, hs⟩
end
end Go.Proofs.YtchkknkjhiaooaaGreatDoor.Vm
