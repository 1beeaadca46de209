/- A part of the proof: Id. -/
import Derived.Test.YtchkknkjhiaooaaGreatDoorChecked
import Derived.Test.YtchkknkjhiaooaaGreatDoorQ28
namespace Go.Proofs.YtchkknkjhiaooaaGreatDoor.Vm
open Go Go.RowKit Go.ChangeShapes Go.WideShapes
set_option linter.unusedVariables false
set_option linter.unusedSimpArgs false
set_option linter.constructorNameAsVariable false
theorem pict_bool_inv {S : St} {m : Nat} {v : AV} {b : Bool} (h : pict S [] m v = some (.bool b)) : v = .bool b := by
  cases m with
  | zero => cases v <;> simp [pict] at h
  | succ m =>
    cases v <;> simp [pict] at h
    · exact congrArg _ h
    all_goals
      split at h
      · first
        | cases h; done
        | (rw [Option.map_eq_some_iff] at h; obtain ⟨_, _, h⟩ := h; cases h)
      · cases h
theorem Ret.law {f : Nat} {xs : List AV} {W : World} {vs : List Value} (h : Ret P (gl W.heap.size) false f xs (.bool true)) (hg : (gl W.heap.size).G W) (hv : VRs (C0 W) vs xs) :
    Calls P f vs.toArray W fun e w' => e = .returned (.bool true) ∧ Below W.heap.size W w' := by
  refine Calls.mono (h.con W (fun _ => False) vs xs hg hv rfl) ?_
  rintro e w' ⟨v, res, objs, μ, rfl, ⟨⟨m, hm⟩, _⟩, hb, _, hr⟩
  obtain rfl := pict_bool_inv hm
  cases hr
  exact ⟨rfl, hb⟩
section
variable {H : Type} {enc : TypeId × Value → H} {Q : Program}
theorem post_of_below {f : Func} {s : ChangeSpec} {apart fresh handsOn again : Bool} {W W' : World} {args : Array Value} {v : Value} {ds gs : List (DataW H)} {before pa pv : List MemPlace}
    (hW : DataW.Whole enc Q f.params.toList s.vars apart W args.toList ds gs before)
    (hres : ∀ (b : Nat) (sp : Nat → Bool) (hd : Bool), DataW.TrodAll enc Q W' b sp hd f.resultTypes.toList (v.resultList f.resultTypes.size) (s.fn H (ds ++ gs)).results [])
    (hargs : ∀ sp : Nat → Bool, (∀ p ∈ before, sp p.block = true) → DataW.TrodAll enc Q W' 0 sp true f.params.toList args.toList (s.fn H (ds ++ gs)).args pa)
    (hvars : ∀ sp : Nat → Bool, (∀ p ∈ before, sp p.block = true) → DataW.TrodVars enc Q W' sp s.vars (s.fn H (ds ++ gs)).vars pv)
    (hps : before = pa ++ pv) (hb : Below W.heap.size W W')
    (hok : ∀ (j : Nat) (t : TypeId) (r : Value), f.resultTypes[j]? = some t → (v.resultList f.resultTypes.size)[j]? = some r → Value.okWide Q W' .any 0 t r) :
    s.post enc Q f apart fresh handsOn again W args v W' := by
  have hold : ∀ p ∈ before, (fun b => decide (b < W.heap.size)) p.block = true := fun p hp => by simpa using hW.lt p hp
  have hlt := hW.lt
  refine ⟨ds, gs, before, [], pa, pv, hW, hres _ _ _, hargs _ hold, hvars _ hold, hb.frame _, fun _ => ?_⟩
  obtain ⟨_, _, _, _, _, hz, hn⟩ := hW
  refine ⟨hok, _, _, ([] ++ pa) ++ pv, ⟨[] ++ pa, pv, trodAll_append (hargs _ (fun _ _ => rfl)) (hres _ _ _), hvars _ (fun _ _ => rfl), rfl, ?_, ?_⟩, ?_⟩
  · intro b off hp
    have hp' : MemPlace.cell b off ∈ before := by rw [hps]; simpa using hp
    rw [hb.frozen (p := ⟨b, off, none⟩) (hlt _ hp')]
    exact hz b off hp'
  · intro ha
    have := hn ha
    rw [hps] at this
    simpa using this
  · intro p hp _
    rw [hps]
    simpa using hp
end
theorem fn3 : P.funcs[3]? = some Tryz.f3 := by kernel_rfl
theorem params3 : Tryz.f3.params = #[24, 3] := by kernel_rfl
theorem results3 : Tryz.f3.resultTypes = #[4] := by kernel_rfl
theorem readable24 : P.readableRec 24 = true := by kernel_rfl
theorem rows24 : 24 < P.types.size := of_decide_eq_true (by kernel_rfl)
theorem open_prog {H : Type} {enc : TypeId × Value → H} {W : World} {base : Nat} {v : Value} {d : DataW H} {ps : List MemPlace} (hval : Value.okWide P W .any base 24 v) (h : DataW.Trod enc P W 0 (fun _ => true) true 24 v d ps) : ∃ p : Prg, VR (C0 W) v (encP p) := by
  unfold Value.okWide at hval
  rw [u24] at hval
  obtain ⟨cs, rfl, _, _⟩ := hval
  obtain ⟨fuel, hf⟩ := h
  obtain ⟨p, hp, _⟩ := opens_prog fuel cs.toList _ hf
  refine ⟨p, ?_⟩
  have := VR.agg cs.toList _ hp
  simpa using this
set_option maxRecDepth 100000 in
theorem liveWay_lifted (os : Os) (started : os.Started) (H : Type) (enc : TypeId × Value → H) :
    ReturnsInHanded {} Tryz.checked os 3 .any (fun w args => (Rows.liveWaySpec.pre enc P Tryz.f3 [] false w args ∧ laidMetH P laidL w) ∧ sizedMet enc P Tryz.f3 (OpenSpec.ofChange Rows.liveWaySpec) false w args)
      (Rows.liveWaySpec.post enc P Tryz.f3 false true false false) := by
  refine returnsInHanded_of_change_and (C := Tryz.checked) (X := fun w _ => laidMetH P laidL w) (fun _ _ _ hh h => h.of_heap hh) own0 started (by kernel_rfl) fn3
    (ChangeSpec.witness_shaped (enc := enc) (C := Tryz.checked) (os := os) (X := fun w _ => laidMetH P laidL w) false (laidWorld os) #[.agg #[.slice none 0 0], .int .i64 0] 8 rfl (World.shaped_of_RefB (by kernel_rfl) (by kernel_rfl)) (by kernel_rfl) (by kernel_rfl) (by kernel_rfl) (laidWorld_met os _)) ?_
  intro W base args ds gs before hval0 hW _ _ hL _
  have hval : ∀ (j : Nat) t v, Tryz.f3.params[j]? = some t → args[j]? = some v → Value.okWide P W .any base t v := hval0
  have hW' := hW
  obtain ⟨p, q, hA0, hV0, rfl, hfz, hnd⟩ := hW
  have hA : DataW.TrodAll enc P W 0 (fun _ => true) true Tryz.f3.params.toList args.toList ds p := hA0
  have hV : DataW.TrodVars enc P W (fun _ => true) [] gs q := hV0
  rw [params3] at hA hval
  obtain ⟨v0, v1, d0, d1, p0, p1, rfl, rfl, rfl, h0, h1⟩ := trodAll_two hA
  obtain ⟨rfl, rfl⟩ := trodVars_none hV
  obtain ⟨n, rfl, rfl, rfl, hwn⟩ := open_int u3 (hval 1 3 v1 rfl rfl) h1
  obtain ⟨pr, hpr⟩ := open_prog (hval 0 24 v0 rfl rfl) h0
  have hg := laid_gl hL
  have hc := (law_LiveWay (N := W.heap.size) pr n).law hg (.cons _ _ _ _ hpr (.cons _ _ _ _ (.int _ _) .nil))
  have e1 : Rows.liveWaySpec.fn H ([d0, .lit (.int .i64 n)] ++ []) = { results := [.lit (.bool true)], args := [d0, .lit (.int .i64 n)] } := by simp [Rows.liveWaySpec]
  have hlt : ∀ x ∈ p0, x.block < W.heap.size := fun x hx => by simpa using hW'.lt x (by simp [hx])
  refine hc.mono fun e W' ⟨he, hb⟩ => ?_
  subst he
  refine ⟨_, rfl, post_of_below (pa := p0 ++ []) (pv := []) hW' (fun _ _ _ => ?_) (fun sp hsp => ?_) (fun sp hsp => ?_) (by simp) hb (ok_one results3 rfl ?_)⟩
  · rw [e1]
    exact trodAll_mk1 (shut_bool u4 true)
  · rw [e1]
    exact trodAll_mk2 (WideElems.Trod_stays laidOut0 readable24 rows24 h0 (fun x hx => hb.same (hlt x hx)) (fun x hx => hsp x (by simp [hx]))) (shut_int u3 hwn)
  · exact rfl
  · exact okWide_bool_mk u4 true
end Go.Proofs.YtchkknkjhiaooaaGreatDoor.Vm
