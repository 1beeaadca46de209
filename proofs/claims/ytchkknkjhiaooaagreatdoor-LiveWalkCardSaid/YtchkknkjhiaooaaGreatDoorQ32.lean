/- A part of the proof: Il. -/
import Derived.Test.YtchkknkjhiaooaaGreatDoorQ31
set_option linter.unusedVariables false
set_option linter.unusedSimpArgs false
set_option linter.constructorNameAsVariable false
namespace Go.Proofs.YtchkknkjhiaooaaGreatDoor.Vm
open Go Go.RowKit Go.ChangeShapes Go.WideShapes
theorem fn4 : P.funcs[4]? = some Tryz.f4 := by kernel_rfl
theorem params4 : Tryz.f4.params = #[24, 3, 3, 33] := by kernel_rfl
theorem results4 : Tryz.f4.resultTypes = #[4] := by kernel_rfl
theorem readable33 : P.readableRec 33 = true := by kernel_rfl
theorem rows33 : 33 < P.types.size := of_decide_eq_true (by kernel_rfl)
set_option maxRecDepth 100000 in
theorem open_row {H : Type} {enc : TypeId × Value → H} {W : World} {base : Nat} {v : Value} {d : DataW H} {ps : List MemPlace} (hval : Value.okWide P W .any base 33 v) (h : DataW.Trod enc P W 0 (fun _ => true) true 33 v d ps) : ∃ (l : List Int) (x : AV), FSl intc 1 x l ∧ VR (C0 W) v x := by
  obtain ⟨a, len, cap, rfl⟩ := okWide_slice u33 hval
  obtain ⟨fuel, hf⟩ := h
  have hf2 : DataW.trod enc P W 0 (fun _ => true) true fuel 33 [.slice a len cap] = some (d, ps) := hf
  have hs : (0 : Nat) < 1 := Nat.one_pos
  obtain ⟨⟨z, l⟩, hl, _⟩ := opens_slice (e := intc) u33 z3 hs (fun _ => rfl) (opens_int u3) fuel [.slice a len cap] (d, ps) hf2
  exact ⟨l, encN z intc 1 l, encN_sl, one_VRs hl⟩
set_option maxRecDepth 100000 in
theorem liveWalk_lifted (os : Os) (started : os.Started) (H : Type) (enc : TypeId × Value → H) :
    ReturnsInHanded {} Tryz.checked os 4 .any (fun w args => (Rows.liveWalkSpec.pre enc P Tryz.f4 [] false w args ∧ laidMetH P laidL w) ∧ sizedMet enc P Tryz.f4 (OpenSpec.ofChange Rows.liveWalkSpec) false w args)
      (Rows.liveWalkSpec.post enc P Tryz.f4 false true false false) := by
  refine returnsInHanded_of_change_and (C := Tryz.checked) (X := fun w _ => laidMetH P laidL w) (fun _ _ _ hh h => h.of_heap hh) own0 started (by kernel_rfl) fn4
    (ChangeSpec.witness_shaped (enc := enc) (C := Tryz.checked) (os := os) (X := fun w _ => laidMetH P laidL w) false (laidWorld os) #[.agg #[.slice none 0 0], .int .i64 0, .int .i64 0, .slice none 0 0] 8 rfl (World.shaped_of_RefB (by kernel_rfl) (by kernel_rfl)) (by kernel_rfl) (by kernel_rfl) (by kernel_rfl) (laidWorld_met os _)) ?_
  intro W base args ds gs before hval0 hW _ _ hL _
  have hval : ∀ (j : Nat) t v, Tryz.f4.params[j]? = some t → args[j]? = some v → Value.okWide P W .any base t v := hval0
  have hW' := hW
  obtain ⟨p, q, hA0, hV0, rfl, hfz, hnd⟩ := hW
  have hA : DataW.TrodAll enc P W 0 (fun _ => true) true Tryz.f4.params.toList args.toList ds p := hA0
  have hV : DataW.TrodVars enc P W (fun _ => true) [] gs q := hV0
  rw [params4] at hA hval
  obtain ⟨v0, v1, v2, v3, d0, d1, d2, d3, p0, p1, p2, p3, rfl, rfl, rfl, h0, h1, h2, h3⟩ := trodAll_four hA
  obtain ⟨rfl, rfl⟩ := trodVars_none hV
  obtain ⟨n, rfl, rfl, rfl, hwn⟩ := open_int u3 (hval 1 3 v1 rfl rfl) h1
  obtain ⟨m, rfl, rfl, rfl, hwm⟩ := open_int u3 (hval 2 3 v2 rfl rfl) h2
  obtain ⟨pr, hpr⟩ := open_prog (hval 0 24 v0 rfl rfl) h0
  obtain ⟨l, x, hx, hlx⟩ := open_row (hval 3 33 v3 rfl rfl) h3
  have hg := laid_gl hL
  have hc := (law_LiveWalk (N := W.heap.size) pr n m l x hx).law hg (.cons _ _ _ _ hpr (.cons _ _ _ _ (.int _ _) (.cons _ _ _ _ (.int _ _) (.cons _ _ _ _ hlx .nil))))
  have e1 : Rows.liveWalkSpec.fn H ([d0, .lit (.int .i64 n), .lit (.int .i64 m), d3] ++ []) = { results := [.lit (.bool true)], args := [d0, .lit (.int .i64 n), .lit (.int .i64 m), d3] } := by simp [Rows.liveWalkSpec]
  have hlt0 : ∀ x ∈ p0, x.block < W.heap.size := fun x hx => by simpa using hW'.lt x (by simp [hx])
  have hlt3 : ∀ x ∈ p3, x.block < W.heap.size := fun x hx => by simpa using hW'.lt x (by simp [hx])
  refine hc.mono fun e W' ⟨he, hb⟩ => ?_
  subst he
  refine ⟨_, rfl, post_of_below (pa := p0 ++ ([] ++ ([] ++ p3))) (pv := []) hW' (fun _ _ _ => ?_) (fun sp hsp => ?_) (fun sp hsp => ?_) (by simp) hb (ok_one results4 rfl ?_)⟩
  · rw [e1]
    exact trodAll_mk1 (shut_bool u4 true)
  · rw [e1]
    exact trodAll_mk4 (WideElems.Trod_stays laidOut0 readable24 rows24 h0 (fun x hx => hb.same (hlt0 x hx)) (fun x hx => hsp x (by simp [hx]))) (shut_int u3 hwn) (shut_int u3 hwm)
      (WideElems.Trod_stays laidOut0 readable33 rows33 h3 (fun x hx => hb.same (hlt3 x hx)) (fun x hx => hsp x (by simp [hx])))
  · exact rfl
  · exact okWide_bool_mk u4 true
end Go.Proofs.YtchkknkjhiaooaaGreatDoor.Vm
