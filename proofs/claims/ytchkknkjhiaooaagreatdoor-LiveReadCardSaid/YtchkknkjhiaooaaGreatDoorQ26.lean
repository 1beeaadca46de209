/- A part of the proof: Hd He Hf Hg Hh Ra Rc. -/
import Derived.Test.YtchkknkjhiaooaaGreatDoorQ25
set_option linter.unusedVariables false
set_option linter.unusedSimpArgs false
set_option linter.constructorNameAsVariable false
namespace Go.Proofs.YtchkknkjhiaooaaGreatDoor.Vm
open Go Go.RowKit
variable {N : Nat} {g : Glob}
structure Flo3 (S : St) (v1 v2 v3 : AV) (l1 l2 l3 : List Blk) : Prop where
  a : Has outc 1 S v1 l1
  b : SetsRow S v2 (l2.map Blk.gen)
  c : SetsRow S v3 (l3.map Blk.kill)
  ba : Bel S v1
  la : ∀ sz q c, v1 = .sl sz q 0 c → 4 ≤ q
  lb : ∀ sz q c, v2 = .sl sz q 0 c → 4 ≤ q
  lc : ∀ sz q c, v3 = .sl sz q 0 c → 4 ≤ q
  sep : ∀ q c d, v2 = .sl 2 q 0 c → v3 = .sl 2 q 0 d → False
theorem Flo3.up {S S' : St} {v1 v2 v3 : AV} {l1 l2 l3 : List Blk} (h : Flo3 S v1 v2 v3 l1 l2 l3) (hu : Up S S') : Flo3 S' v1 v2 v3 l1 l2 l3 :=
  ⟨h.a.up h.ba hu, h.b.up hu (gens_ws l2), h.c.up hu (kills_ws l3), h.ba.mono hu.1, h.la, h.lb, h.lc, h.sep⟩
theorem SetsRow.push2 {S : St} {v w : AV} {l : List BSet} {s : BSet} {K : AV × St → Prop} (h : SetsRow S v l) (hw : IsRow S w s) (hr : l.length + 1 ≤ room)
    (hk : ∀ v' S', v' = .sl 2 S.next 0 (l.length + 1) → SetsRow S' v' (l ++ [s]) → S'.next = S.next + 1 → (∀ q, q < S.next → (∀ len, v ≠ .sl 2 q 0 len) → S'.obj q = S.obj q) → K (v', S')) : Ok (appV 2 v S [[.int .i64 s.n, w]]) K := by
  have hr0 : ¬ room = 0 := by simp [room]
  rcases h with ⟨rfl, rfl⟩ | ⟨o, es, rfl, ho, hob, hlen, hne, hes⟩
  · simp [hr0, hw.one]
    refine hk _ _ rfl (.inr ⟨S.next, _, rfl, by simp, by simp; rfl, rfl, by simp, ?_⟩) (by simp) ?_
    · intro i t ht
      match i, ht with
      | 0, ht =>
        simp at ht; subst ht
        exact ⟨w, rfl, hw.grown (by simp) fun q ws hq _ => by simp; omega⟩
    · intro q hq _
      simp; omega
  · have hdrop : ∀ t u, IsRow S u t → IsRow ((S.drop o).new (.row 2 (es.take l.length ++ [[.int .i64 s.n, w]]))) u t := by
      intro t u hu
      refine hu.grown (by simp) fun q ws hq hob' => ?_
      have : ¬ q = o := by rintro rfl; rw [hob] at hob'; cases hob'
      simp [this]; omega
    simp [hr0, hw.one, hob, hlen, hr]
    refine hk _ _ rfl (.inr ⟨S.next, _, by simp, by simp, by simp; rfl, by simp; omega, by simp, ?_⟩) (by simp) ?_
    · intro i t ht
      have hdrop := fun t u h => hdrop t u h
      by_cases hi : i < l.length
      · rw [List.getElem?_append_left hi] at ht
        obtain ⟨u, hu1, hu2⟩ := hes i t ht
        refine ⟨u, ?_, hdrop t u hu2⟩
        rw [List.getElem?_append_left (by simp; omega), List.getElem?_take, if_pos hi]
        exact hu1
      · rw [List.getElem?_append_right (by omega)] at ht
        have hi' : i = l.length := by
          have := (List.getElem?_eq_some_iff.1 ht).1
          simp at this; omega
        subst hi'
        simp at ht; subst ht
        refine ⟨w, ?_, hdrop s w hw⟩
        rw [List.getElem?_append_right (by simp; omega)]
        simp [hlen]
    · intro q hq hne'
      have : ¬ q = o := fun h => hne' _ (by rw [h])
      simp [this]; omega
theorem outV_int (b : Blk) (k : IntKind) (n : Int) : b.outV ≠ .int k n := by
  unfold Blk.outV encN
  intro h
  repeat' split at h
  all_goals cases h
theorem outc_u64 {l : List Blk} {ws : List Nat} (hl : l ≠ []) : els outc l ≠ els u64c ws := by
  intro h
  cases l with
  | nil => exact hl rfl
  | cons b l =>
    cases ws with
    | nil => simp [els] at h
    | cons w ws =>
      have h1 : outc b = u64c w := by simpa [els] using congrArg List.head? h
      simp [outc, u64c] at h1
      exact outV_int b _ _ h1
theorem Flo3.set3 {S : St} {v1 v2 v3 : AV} {l1 l2 l3 : List Blk} (h : Flo3 S v1 v2 v3 l1 l2 l3) {k : Nat} (hk : k < 4) {es : List (List AV)} (h3 : S.obj k = some (.row 4 es)) (x : AObj) : Flo3 (S.set k x) v1 v2 v3 l1 l2 l3 := by
  have key : ∀ {v : AV}, (∀ sz q c, v = .sl sz q 0 c → 4 ≤ q) → ∀ q, q < S.next → ((∃ c, v = AV.sl 2 q 0 c) ∨ ∃ ws, ws ≠ [] ∧ S.obj q = some (.row 1 (els u64c ws))) → (S.set k x).obj q = S.obj q := by
    intro v hv q hq hh
    have : ¬ q = k := by
      rintro rfl
      rcases hh with ⟨c, hc⟩ | ⟨ws, _, hw⟩
      · have := hv _ _ _ hc; omega
      · rw [h3] at hw; cases hw
    simp [this]
  refine ⟨h.a.keep fun q ⟨c, e⟩ => by simp [show ¬ q = k by have := h.la _ _ _ e; omega], h.b.grown (by simp) (gens_ws l2) (key h.lb), h.c.grown (by simp) (kills_ws l3) (key h.lc), h.ba.mono (by simp), h.la, h.lb, h.lc, h.sep⟩
theorem Flo3.push1 {S : St} {v1 v2 v3 : AV} {l1 l2 l3 : List Blk} {K : AV × St → Prop} (h : Flo3 S v1 v2 v3 l1 l2 l3) (b : Blk) (h4 : 4 ≤ S.next) (hr : l1.length + 1 ≤ room)
    (hk : ∀ v' S', v' = .sl 1 S.next 0 (l1.length + 1) → Flo3 S' v' v2 v3 (l1 ++ [b]) l2 l3 → S'.next = S.next + 1 → (∀ q, q < S.next → (∀ c, v1 ≠ .sl 1 q 0 c) → S'.obj q = S.obj q) → (∀ q ws, q < S.next → S.obj q = some (.row 1 (els u64c ws)) → S'.obj q = S.obj q) → K (v', S')) : Ok (appV 1 v1 S [[b.outV]]) K := by
  have hap : ∀ {v : AV} {l : List BSet}, SetsRow S v l → ∀ q, q < S.next → ((∃ c, v = AV.sl 2 q 0 c) ∨ ∃ ws, ws ≠ [] ∧ S.obj q = some (.row 1 (els u64c ws))) → ∀ c, v1 ≠ .sl 1 q 0 c := by
    intro v l hv q hq hh c hc
    rcases h.a with ⟨rfl, _⟩ | ⟨o, rfl, ho, hne⟩
    · cases hc
    · cases hc
      rcases hh with ⟨c, hc⟩ | ⟨ws, _, hw⟩
      · obtain ⟨_, es, he⟩ := hv.at hc
        rw [ho] at he; cases he
      · rw [ho] at hw; injection hw with hw; injection hw with _ hw; exact outc_u64 hne hw
  refine appV_own (x := b) h.a (by rcases b.outS with e | ⟨e, _⟩ <;> simp [okEl, outc, e]) hr fun S' k1 k2 k3 => hk _ S' rfl ⟨k1, h.b.grown (by omega) (gens_ws l2) fun q hq hh => k3 q hq (hap h.b q hq hh), h.c.grown (by omega) (kills_ws l3) fun q hq hh => k3 q hq (hap h.c q hq hh), Bel.sl (by omega), fun sz q c e => by cases e; exact h4, h.lb, h.lc, h.sep⟩ k2 k3 fun q ws hq hw => k3 q hq fun c hc => by
    rcases h.a with ⟨rfl, _⟩ | ⟨o, rfl, ho, hne⟩
    · cases hc
    · cases hc
      rw [ho] at hw; injection hw with hw; injection hw with _ hw; exact outc_u64 hne hw
theorem Flo3.push2 {S : St} {v1 v2 v3 w : AV} {l1 l2 l3 : List Blk} {K : AV × St → Prop} (h : Flo3 S v1 v2 v3 l1 l2 l3) (b : Blk) (hw : IsRow S w b.gen) (h4 : 4 ≤ S.next) (hr : l2.length + 1 ≤ room) (hb3 : Bel S v3)
    (hk : ∀ v' S', v' = .sl 2 S.next 0 (l2.length + 1) → Flo3 S' v1 v' v3 l1 (l2 ++ [b]) l3 → S'.next = S.next + 1 → (∀ q, q < S.next → (∀ c, v2 ≠ .sl 2 q 0 c) → S'.obj q = S.obj q) → (∀ q ws, q < S.next → S.obj q = some (.row 1 (els u64c ws)) → S'.obj q = S.obj q) → K (v', S')) : Ok (appV 2 v2 S [[.int .i64 6, w]]) K := by
  have hn := b.gen_ok.2
  rw [show (AV.int .i64 6) = .int .i64 b.gen.n by rw [hn]; rfl]
  refine SetsRow.push2 h.b hw (by simpa using hr) fun v' S' e k1 k2 k3 => ?_
  simp at e
  refine hk v' S' e ⟨h.a.keep fun q ⟨c, hc⟩ => k3 q (h.ba _ _ _ hc) fun d hd => ?_, by simpa using k1, h.c.grown (by omega) (kills_ws l3) fun q hq hh => k3 q hq fun d hd => ?_, h.ba.mono (by omega), h.la, fun sz q c e' => by rw [e] at e'; cases e'; exact h4, h.lc, fun q c d e1 e2 => by rw [e] at e1; cases e1; have := hb3 _ _ _ e2; omega⟩ k2 k3 fun q ws hq hw => k3 q hq fun d hd => by
    obtain ⟨_, es, he⟩ := h.b.at hd
    rw [he] at hw; cases hw
  · obtain ⟨_, es, he⟩ := h.b.at hd
    rcases h.a with ⟨rfl, _⟩ | ⟨o, rfl, ho, hne⟩
    · cases hc
    · cases hc; rw [ho] at he; cases he
  · obtain ⟨_, es, he⟩ := h.b.at hd
    rcases hh with ⟨c, hc⟩ | ⟨ws, _, hw⟩
    · exact h.sep _ _ _ hd hc
    · rw [he] at hw; cases hw
theorem Flo3.push3 {S : St} {v1 v2 v3 w : AV} {l1 l2 l3 : List Blk} {K : AV × St → Prop} (h : Flo3 S v1 v2 v3 l1 l2 l3) (b : Blk) (hw : IsRow S w b.kill) (h4 : 4 ≤ S.next) (hr : l3.length + 1 ≤ room) (hb2 : Bel S v2)
    (hk : ∀ v' S', v' = .sl 2 S.next 0 (l3.length + 1) → Flo3 S' v1 v2 v' l1 l2 (l3 ++ [b]) → S'.next = S.next + 1 → (∀ q, q < S.next → (∀ c, v3 ≠ .sl 2 q 0 c) → S'.obj q = S.obj q) → K (v', S')) : Ok (appV 2 v3 S [[.int .i64 6, w]]) K := by
  have hn := b.kill_ok.2
  rw [show (AV.int .i64 6) = .int .i64 b.kill.n by rw [hn]; rfl]
  refine SetsRow.push2 h.c hw (by simpa using hr) fun v' S' e k1 k2 k3 => ?_
  simp at e
  refine hk v' S' e ⟨h.a.keep fun q ⟨c, hc⟩ => k3 q (h.ba _ _ _ hc) fun d hd => ?_, h.b.grown (by omega) (gens_ws l2) fun q hq hh => k3 q hq fun d hd => ?_, by simpa using k1, h.ba.mono (by omega), h.la, h.lb, fun sz q c e' => by rw [e] at e'; cases e'; exact h4, fun q c d e1 e2 => by rw [e] at e2; cases e2; have := hb2 _ _ _ e1; omega⟩ k2 k3
  · obtain ⟨_, es, he⟩ := h.c.at hd
    rcases h.a with ⟨rfl, _⟩ | ⟨o, rfl, ho, hne⟩
    · cases hc
    · cases hc; rw [ho] at he; cases he
  · obtain ⟨_, es, he⟩ := h.c.at hd
    rcases hh with ⟨c, hc⟩ | ⟨ws, _, hw⟩
    · exact h.sep _ _ _ hc hd
    · rw [he] at hw; cases hw
theorem Flo3.pict1 {S : St} {v1 v2 v3 : AV} {l1 l2 l3 : List Blk} {n : Nat} (h : Flo3 S v1 v2 v3 l1 l2 l3) : Vm.pict S [] (n + 3) v1 = some (encF (fun b : Blk => [b.outV]) 1 l1) := by
  rcases h.a with ⟨rfl, rfl⟩ | ⟨o, rfl, ho, hne⟩
  · rfl
  · have : encF (fun b : Blk => [b.outV]) 1 l1 = .fsl 1 (els outc l1) := by unfold encF; rw [if_neg hne]; rfl
    rw [this]
    refine pict_row ho (by simp) (by simp) fun k e he => ?_
    rw [he]
    simp only [els, List.getElem?_map] at he
    cases hb : l1[k]? with
    | none => rw [hb] at he; cases he
    | some b => rw [hb] at he; cases he; simp [outc, mapOpt, pict_stab b.outS.stab]
def FloI (bs : List Blk) (a : Nat) (S : St) : Prop := 4 ≤ S.next ∧ S.obj 1 = some (.row 4 [[.int .i64 0, .nilsl, .nilsl, .nilsl]]) ∧ ∃ v1 v2 v3, S.obj 3 = some (.row 4 [[.int .i64 6, v1, v2, v3]]) ∧ Flo3 S v1 v2 v3 (bs.take a) (bs.take a) (bs.take a)
theorem live_Flow (p : Prg) (i : Int) (hp : p.Fit) {f : Fun} (hf : p.fn i = some f) (hl : f.blks.length ≤ 12) : Ret P (gl N) false 65 [encP p, .int .i64 i] (flowE f.blks) := by
  refine Ret.in c65 (by simp) ?_
  simp [k65]
  refine (prog_Fun p i hp).use (n := 9) ?_ (by simp [solids, AV.solid, p.funsS.solid]) ?_ <;> simp
  simp [hf, f.blksS.len]
  have hsm := fn_fit hp hf
  refine W.whileI (fun (a : Nat) F S => a ≤ f.blks.length ∧ F 4 = .ptr 1 0 0 ∧ F 7 = .ptr 3 0 0 ∧ F 23 = f.blksV ∧ F 24 = .int .i64 f.blks.length ∧ F 25 = .int .i64 a ∧ FloI f.blks a S) (fun a => f.blks.length - a) ?_ 0 _ _ ?_
  · rintro a F S ⟨ha, h4, h7, h23, h24, h25, hn, h1, v1, v2, v3, h3, hF⟩
    by_cases hlt : a < f.blks.length
    · have e4 := wrapS a (by omega)
      obtain ⟨b, hb⟩ : ∃ b, f.blks[a]? = some b := ⟨_, List.getElem?_eq_getElem hlt⟩
      simp [h24, h25, hlt]
      simp [h23, h25, f.blksS.idx hb]
      refine (new_ret).use (n := 9) ?_ rfl ?_ <;> simp [b.insS.len]
      refine live_back b.insS.cells (by simp) ?_
      simp
      refine W.rangeC (f := 159) (captured := [.ptr (S.next + 1 + 1 + 1) 0 0, .ptr (S.next + 1 + 1) 0 0]) (by simp) ?_
      simp
      have hbm := List.mem_of_getElem? hb
      have hin := hsm.ins b hbm
      have hlf4 : ∀ (x : AV), x = F 4 → x = .ptr 1 0 0 := fun x h => h.trans h4
      generalize hLF : upd (upd (upd (upd (upd (upd (upd (upd (upd (upd F 26 (AV.bool true)) 27 (AV.fptr [AV.bool b.on, b.insV, b.outV] 0)) 28 (AV.agg [AV.bool b.on, b.insV, b.outV])) 9 (AV.ptr S.next 0 0)) 29 (AV.agg [AV.int IntKind.i64 ↑(BSet.new 6).n, AV.fsl 1 (els u64c (BSet.new 6).ws)]))
        10 (AV.ptr (S.next + 1) 0 0)) 30 (AV.agg [AV.int IntKind.i64 ↑(BSet.new 6).n, AV.fsl 1 (els u64c (BSet.new 6).ws)])) 31 (AV.ptr S.next 0 1)) 32 b.insV) 33 (AV.func (Fn.func 159) [] [AV.ptr (S.next + 1 + 1 + 1) 0 0, AV.ptr (S.next + 1 + 1) 0 0]) = LF
      have l4 : LF 4 = .ptr 1 0 0 := by rw [← hLF]; simp [h4]
      have l7 : LF 7 = .ptr 3 0 0 := by rw [← hLF]; simp [h7]
      have l9 : LF 9 = .ptr S.next 0 0 := by rw [← hLF]; simp
      have l10 : LF 10 = .ptr (S.next + 1) 0 0 := by rw [← hLF]; simp
      have l23 : LF 23 = f.blksV := by rw [← hLF]; simp [h23]
      have l24 : LF 24 = .int .i64 f.blks.length := by rw [← hLF]; simp [h24]
      have l25 : LF 25 = .int .i64 a := by rw [← hLF]; simp [h25]
      have hF7 := h7
      clear hLF
      generalize hS1 : (((((((S.new (AObj.row 3 [[AV.bool false, AV.nilsl, AV.nilsl]])).set S.next (AObj.row 3 [[AV.bool b.on, b.insV, b.outV]])).new (AObj.row 2 [[AV.int IntKind.i64 0, AV.nilsl]])).set (S.next + 1) (AObj.row 2 [[AV.int IntKind.i64 ↑(BSet.new 6).n, AV.fsl 1 (els u64c (BSet.new 6).ws)]])).new
              (AObj.row 2 [[AV.int IntKind.i64 ↑(BSet.new 6).n, AV.fsl 1 (els u64c (BSet.new 6).ws)]])).new (AObj.row 1 [[b.insV]])).new (AObj.loop 64 #[34, 35] LF (rngA Tryz.f65 0) (rngB Tryz.f65 0) LSt.ready)) = S1
      have n1 : S1.next = S.next + 5 := by rw [← hS1]; simp
      have u1 : Up S S1 := ⟨by omega, fun q hq => by rw [← hS1]; simp [show ¬ q = S.next by omega, show ¬ q = S.next + 1 by omega, show ¬ q = S.next + 1 + 1 by omega, show ¬ q = S.next + 1 + 1 + 1 by omega, show ¬ q = S.next + 1 + 1 + 1 + 1 by omega]⟩
      have oA : S1.obj S.next = some (.row 3 [[.bool b.on, b.insV, b.outV]]) := by rw [← hS1]; simp [show ¬ S.next = S.next + 1 + 1 by omega, show ¬ S.next = S.next + 1 + 1 + 1 by omega, show ¬ S.next = S.next + 1 + 1 + 1 + 1 by omega]
      have oB : S1.obj (S.next + 1) = some (.row 2 [[.int .i64 (BSet.new 6).n, .fsl 1 (els u64c (BSet.new 6).ws)]]) := by rw [← hS1]; simp
      have oC : S1.obj (S.next + 1 + 1) = some (.row 2 [[.int .i64 (BSet.new 6).n, .fsl 1 (els u64c (BSet.new 6).ws)]]) := by rw [← hS1]; simp
      have oD : S1.obj (S.next + 1 + 1 + 1) = some (.row 1 [[b.insV]]) := by rw [← hS1]; simp
      have oE : S1.obj (S.next + 1 + 1 + 1 + 1) = some (.loop 64 #[34, 35] LF (rngA Tryz.f65 0) (rngB Tryz.f65 0) LSt.ready) := by rw [← hS1]; simp
      clear hS1
      refine flow_kills (s0 := BSet.new 6) (t0 := BSet.new 6) (sv := .fsl 1 (els u64c (BSet.new 6).ws)) (tv := .fsl 1 (els u64c (BSet.new 6).ws)) b.insS (by omega) (BSet.new_ok (by omega)) (BSet.new_ok (by omega)) l10 (by omega) (by omega) (by omega) (by omega) (by omega) (by omega) (by omega) (by omega) (by omega) (by omega)
        oD oC (.inl rfl) (fun o h => by cases h) oE oB (.inl rfl) (fun o h => by cases h) fun S2 tv k1 k2 k3 k4 k5 => ?_
      refine ⟨k1, ?_⟩
      generalize hS3 : S2.drop (S.next + 1 + 1 + 1 + 1) = S3
      have hk3 : IsRow S3 tv b.kill := by
        refine k3.keep (M := fun o => o = S.next + 1 + 1 + 1 + 1) ⟨by rw [← hS3]; simp, fun o ho hM => by rw [← hS3]; simp [hM]⟩ fun o h => ?_
        have hkn : (b.ins.foldr (fun i s => s.with i.def) (BSet.new 6)).n = 6 := b.kill_ok.2
        rw [hkn] at h
        exact (k4 o h).1
      have n3 : S3.next = S2.next := by rw [← hS3]; simp
      have n2 := k5.1
      have u3 : Up S S3 := ⟨by omega, fun q hq => by rw [← hS3]; simp [show ¬ q = S.next + 1 + 1 + 1 + 1 by omega]; rw [k5.2 q (by omega) (by omega)]; exact u1.2 q hq⟩
      have pA : S3.obj S.next = some (.row 3 [[.bool b.on, b.insV, b.outV]]) := by rw [← hS3]; simp [show ¬ S.next = S.next + 1 + 1 + 1 + 1 by omega]; rw [k5.2 _ (by omega) (by omega)]; exact oA
      have pB : S3.obj (S.next + 1) = some (.row 2 [[.int .i64 6, tv]]) := by rw [← hS3]; simp; exact k2
      clear hS3 k1 k2 k3 k4 k5
      have p1 : S3.obj 1 = some (.row 4 [[.int .i64 0, .nilsl, .nilsl, .nilsl]]) := by rw [u3.2 1 (by omega)]; exact h1
      have p3 : S3.obj 3 = some (.row 4 [[.int .i64 6, v1, v2, v3]]) := by rw [u3.2 3 (by omega)]; exact h3
      have b2 : Bel S v2 := fun sz q c h => by
        rcases hF.b with ⟨rfl, _⟩ | ⟨o, es, rfl, ho, _⟩
        · cases h
        · cases h; exact ho
      have b3 : Bel S v3 := fun sz q c h => by
        rcases hF.c with ⟨rfl, _⟩ | ⟨o, es, rfl, ho, _⟩
        · cases h
        · cases h; exact ho
      have b1 := hF.ba
      have hF3 := hF.up u3
      have hoc : b.outV.cells = [b.outV] := b.outS.cells
      simp [h7, p3, pA, hoc]
      have hta : (f.blks.take a).length = a := by simp; omega
      have hroom : a + 1 ≤ room := by simp [room]; omega
      refine (hF3.up (Up.new _ _)).push1 b (by simp; omega) (by omega) fun w1 S5 e1 f1 m1 fr1 fw1 => ?_
      simp at m1 fr1 fw1 e1
      have q3 : S5.obj 3 = some (.row 4 [[.int .i64 6, v1, v2, v3]]) := by rw [fr1 3 (by omega) (fun c e => by have := hF.la _ _ _ e; omega)]; simp [show ¬ 3 = S3.next by omega, p3]
      have q1 : S5.obj 1 = some (.row 4 [[.int .i64 0, .nilsl, .nilsl, .nilsl]]) := by rw [fr1 1 (by omega) (fun c e => by have := hF.la _ _ _ e; omega)]; simp [show ¬ 1 = S3.next by omega, p1]
      have qA : S5.obj S.next = some (.row 3 [[.bool b.on, b.insV, b.outV]]) := by rw [fr1 _ (by omega) (fun c e => by have := b1 _ _ _ e; omega)]; simp [show ¬ S.next = S3.next by omega, pA]
      have qB : S5.obj (S.next + 1) = some (.row 2 [[.int .i64 6, tv]]) := by rw [fr1 _ (by omega) (fun c e => by have := b1 _ _ _ e; omega)]; simp [show ¬ S.next + 1 = S3.next by omega, pB]
      have hk5 : IsRow S5 tv b.kill := (hk3.grown (S' := S3.new (.row 1 [[b.outV]])) (by simp) (fun q ws hq _ => by simp [show ¬ q = S3.next by omega])).grown (by simp; omega) fun q ws hq hh => by
        simp at hq
        have := fw1 q ws hq
        simp at this hh
        exact this hh
      clear fr1 fw1
      have hc1 : w1.cells = [w1] ∧ w1.one = true := by rw [e1]; exact ⟨rfl, rfl⟩
      have l1 := f1.la
      simp [hc1, q3]
      generalize hS6 : S5.set 3 (.row 4 [[.int .i64 6, w1, v2, v3]]) = S6
      have f2 : Flo3 S6 w1 v2 v3 (f.blks.take a ++ [b]) (f.blks.take a) (f.blks.take a) := by rw [← hS6]; exact f1.set3 (by omega) q3 _
      have n6 : S6.next = S5.next := by rw [← hS6]; simp
      have r3 : S6.obj 3 = some (.row 4 [[.int .i64 6, w1, v2, v3]]) := by rw [← hS6]; simp
      have r1 : S6.obj 1 = some (.row 4 [[.int .i64 0, .nilsl, .nilsl, .nilsl]]) := by rw [← hS6]; simp [q1]
      have rA : S6.obj S.next = some (.row 3 [[.bool b.on, b.insV, b.outV]]) := by rw [← hS6]; simp [show ¬ S.next = 3 by omega, qA]
      have rB : S6.obj (S.next + 1) = some (.row 2 [[.int .i64 6, tv]]) := by rw [← hS6]; simp [show ¬ S.next + 1 = 3 by omega, qB]
      have hk6 : IsRow S6 tv b.kill := hk5.grown (by omega) fun q ws hq hh => by
        rw [← hS6]; simp [show ¬ q = 3 from fun e => by rw [e, q3] at hh; cases hh]
      clear hS6
      refine Dra.auto [] mix ?_ ?_
      · kernel_rfl
      simp [classes, l7, l9, r3, rA]
      refine (new_ret).b (n := 9) ?_ rfl ?_ <;> simp
      simp [l9, rA]
      refine (live_ahead b.ins b.insV (BSet.new 6) b.insS (by omega) (BSet.new_ok (by omega))).b (n := 9) ?_ ?_ ?_
      · simp [mapOpt, pict_stab b.insS.stab]
      · simp [solids, AV.solid, b.insS.solid]
      simp [l7, r3]
      have hgen : List.foldr Ins.live (BSet.new 6) b.ins = b.gen := rfl
      rw [hgen, b.gen_ok.2]
      generalize hS7 : S6.new (.row 2 [[.int .i64 ((6 : Nat) : Int), .fsl 1 (els u64c b.gen.ws)]]) = S7
      have n7 : S7.next = S6.next + 1 := by rw [← hS7]; simp
      have u7 : Up S6 S7 := by rw [← hS7]; exact Up.new _ _
      have f3 := f2.up u7
      have hk7 : IsRow S7 tv b.kill := hk6.grown (by omega) fun q ws hq _ => u7.2 q hq
      have t3 : S7.obj 3 = some (.row 4 [[.int .i64 6, w1, v2, v3]]) := by rw [u7.2 3 (by omega)]; exact r3
      have t1 : S7.obj 1 = some (.row 4 [[.int .i64 0, .nilsl, .nilsl, .nilsl]]) := by rw [u7.2 1 (by omega)]; exact r1
      have tB : S7.obj (S.next + 1) = some (.row 2 [[.int .i64 6, tv]]) := by rw [u7.2 _ (by omega)]; exact rB
      clear hS7
      refine f3.push2 b (.inl rfl) (by omega) (by omega) (b3.mono (by omega)) fun w2 S8 e2 f4 m2 fr2 fw2 => ?_
      have d2 : ∀ q c, v2 = .sl 2 q 0 c → 4 ≤ q ∧ q < S.next := fun q c e => ⟨hF.lb _ _ _ e, b2 _ _ _ e⟩
      have x3 : S8.obj 3 = some (.row 4 [[.int .i64 6, w1, v2, v3]]) := by rw [fr2 3 (by omega) (fun c e => by have := d2 _ _ e; omega)]; exact t3
      have x1 : S8.obj 1 = some (.row 4 [[.int .i64 0, .nilsl, .nilsl, .nilsl]]) := by rw [fr2 1 (by omega) (fun c e => by have := d2 _ _ e; omega)]; exact t1
      have xB : S8.obj (S.next + 1) = some (.row 2 [[.int .i64 6, tv]]) := by rw [fr2 _ (by omega) (fun c e => by have := d2 _ _ e; omega)]; exact tB
      have hk8 : IsRow S8 tv b.kill := hk7.grown (by omega) fw2
      clear fr2 fw2
      have hc2 : w2.cells = [w2] ∧ w2.one = true := by rw [e2]; exact ⟨rfl, rfl⟩
      simp [hc2, x3]
      generalize hS9 : S8.set 3 (.row 4 [[.int .i64 6, w1, w2, v3]]) = S9
      have f5 := f4.set3 (by omega) x3 (.row 4 [[.int .i64 6, w1, w2, v3]])
      rw [hS9] at f5
      have n9 : S9.next = S8.next := by rw [← hS9]; simp
      have y3 : S9.obj 3 = some (.row 4 [[.int .i64 6, w1, w2, v3]]) := by rw [← hS9]; simp
      have y1 : S9.obj 1 = some (.row 4 [[.int .i64 0, .nilsl, .nilsl, .nilsl]]) := by rw [← hS9]; simp [x1]
      have yB : S9.obj (S.next + 1) = some (.row 2 [[.int .i64 6, tv]]) := by rw [← hS9]; simp [show ¬ S.next + 1 = 3 by omega, xB]
      have hk9 : IsRow S9 tv b.kill := hk8.grown (by omega) fun q ws hq hh => by
        rw [← hS9]; simp [show ¬ q = 3 from fun e => by rw [e, x3] at hh; cases hh]
      clear hS9
      simp [y3, l10, yB, hk9.one]
      refine (f5.up (Up.new _ _)).push3 b (hk9.grown (by simp) fun q ws hq _ => by simp [show ¬ q = S9.next by omega]) (by simp; omega) (by omega) (fun sz q c e => by rw [e2] at e; cases e; simp; omega) fun w3 S10 e3 f6 m3 fr3 => ?_
      have d3 : ∀ q c, v3 = .sl 2 q 0 c → 4 ≤ q ∧ q < S.next := fun q c e => ⟨hF.lc _ _ _ e, b3 _ _ _ e⟩
      have z3 : S10.obj 3 = some (.row 4 [[.int .i64 6, w1, w2, v3]]) := by rw [fr3 3 (by simp; omega) (fun c e => by have := d3 _ _ e; omega)]; simp [show ¬ 3 = S9.next by omega, y3]
      have z1 : S10.obj 1 = some (.row 4 [[.int .i64 0, .nilsl, .nilsl, .nilsl]]) := by rw [fr3 1 (by simp; omega) (fun c e => by have := d3 _ _ e; omega)]; simp [show ¬ 1 = S9.next by omega, y1]
      have hc3 : w3.cells = [w3] ∧ w3.one = true := by rw [e3]; exact ⟨rfl, rfl⟩
      have f7 := f6.set3 (by omega) z3 (.row 4 [[.int .i64 6, w1, w2, w3]])
      have etk : f.blks.take (a + 1) = f.blks.take a ++ [b] := take_succ_get hb
      simp at m3
      simp [hc3, z3, l4, l23, l24, l25, e4]
      exact ⟨a + 1, by omega, by omega, by omega, by simp; omega, by simp [z1], w1, w2, w3, by simp, by rw [etk]; exact f7⟩
    · have : a = f.blks.length := by omega
      subst this
      rw [List.take_of_length_le (Nat.le_refl _)] at hF
      have hlk : ∀ b ∈ f.blks.map Blk.gen, b.OK := fun s hs => by
        rw [List.mem_map] at hs; obtain ⟨b, _, rfl⟩ := hs; exact b.gen_ok.1
      have hlg : ∀ b ∈ f.blks.map Blk.kill, b.OK := fun s hs => by
        rw [List.mem_map] at hs; obtain ⟨b, _, rfl⟩ := hs; exact b.kill_ok.1
      have hT := hF.set3 (by omega) h1 (.row 4 [[.int .i64 6, v1, v2, v3]])
      have p1 := hT.pict1 (n := 5)
      have p2 := hT.b.pict (n := 5) hlk
      have p3 := hT.c.pict (n := 5) hlg
      have o1 : v1.one = true := by rcases hF.a with ⟨rfl, _⟩ | ⟨o, rfl, _⟩ <;> rfl
      have o2 : v2.one = true := by rcases hF.b with ⟨rfl, _⟩ | ⟨o, es, rfl, _⟩ <;> rfl
      have o3 : v3.one = true := by rcases hF.c with ⟨rfl, _⟩ | ⟨o, es, rfl, _⟩ <;> rfl
      have e2 : encF (fun b : Blk => setc b.gen) 2 f.blks = encF setc 2 (f.blks.map Blk.gen) := encF_map
      have e3 : encF (fun b : Blk => setc b.kill) 2 f.blks = encF setc 2 (f.blks.map Blk.kill) := encF_map
      simp [h24, h25, h7, h3, h4, h1, o1, o2, o3]
      refine ⟨9, ?_⟩
      rw [flowE, e2, e3]
      simp only [pict_aggs, mapOpt, pict_int, p1, p2, p3, Option.map]
  · simp
    exact ⟨by simp, by simp, .nilsl, .nilsl, .nilsl, by simp, ⟨.inl ⟨rfl, rfl⟩, .inl ⟨rfl, rfl⟩, .inl ⟨rfl, rfl⟩, Bel.nil, (fun _ _ _ h => by cases h), (fun _ _ _ h => by cases h), (fun _ _ _ h => by cases h), (fun _ _ _ h => by cases h)⟩⟩
end Go.Proofs.YtchkknkjhiaooaaGreatDoor.Vm
namespace Go.Proofs.YtchkknkjhiaooaaGreatDoor.Vm
open Go Go.RowKit
variable {N : Nat} {g : Glob}
structure FunOK (p : Prg) (f : Fun) : Prop where
  vars : f.varsOK
  blks : f.blksOK
  msg : ∀ b ∈ f.blks, p.blkMsg f b = []
theorem fn_sane {p : Prg} {i : Int} {f : Fun} (h : p.fn i = some f) : p.sane = true ∧ 0 ≤ i ∧ p.funs[i.toNat]? = some f := by
  unfold Prg.fn at h
  split at h
  · rename_i hh; exact ⟨hh.2, hh.1, h⟩
  · cases h
theorem firstMsg_all {p : Prg} {f : Fun} : ∀ {l : List Blk}, firstMsg p f l = [] → ∀ b ∈ l, p.blkMsg f b = []
  | [], _, b, hb => by cases hb
  | c :: l, h, b, hb => by
    rw [firstMsg] at h
    split at h
    · rename_i hc
      rcases List.mem_cons.1 hb with rfl | hb
      · exact hc
      · exact firstMsg_all h b hb
    · rename_i hc; exact absurd h hc
theorem sane_ok {p : Prg} (hs : p.sane = true) {f : Fun} (hf : f ∈ p.funs) : FunOK p f := by
  have h := (Prg.sane_iff.1 hs).2.1 f hf
  unfold Prg.funMsg at h
  split at h
  · cases h
  · rename_i h1
    split at h
    · cases h
    · rename_i h2
      exact ⟨Decidable.not_not.1 h1, Decidable.not_not.1 h2, firstMsg_all h⟩
theorem fn_ok {p : Prg} {i : Int} {f : Fun} (h : p.fn i = some f) : FunOK p f := by
  obtain ⟨h1, _, h2⟩ := fn_sane h
  exact sane_ok h1 (List.mem_of_getElem? h2)
theorem FunOK.len {p : Prg} {f : Fun} (h : FunOK p f) : 0 < f.blks.length ∧ f.blks.length ≤ 12 := ⟨by have := h.blks.1; omega, h.blks.2.1⟩
theorem FunOK.blk {p : Prg} {f : Fun} (h : FunOK p f) {b : Blk} (hb : b ∈ f.blks) : (b.on = false → b.ins = [] ∧ b.out = []) ∧ rises b.out = true ∧ (∀ j ∈ b.out, f.live j = true) ∧ b.ins.length ≤ 16 ∧ ∀ x ∈ b.ins, p.insOK f x = true := by
  have hm := h.msg b hb
  unfold Prg.blkMsg at hm
  split at hm
  · cases hm
  · rename_i h1
    split at hm
    · cases hm
    · rename_i h2
      split at hm
      · cases hm
      · rename_i h3
        refine ⟨fun ho => ?_, ?_, fun j hj => ?_, by omega, fun x hx => ?_⟩
        · have : ¬ 0 < b.ins.length + b.out.length := fun h => h1 ⟨ho, h⟩
          exact ⟨List.length_eq_zero_iff.1 (by omega), List.length_eq_zero_iff.1 (by omega)⟩
        · cases hr : rises b.out
          · exact absurd (.inl hr) h2
          · rfl
        · cases hl : f.live j
          · exact absurd (.inr (List.any_eq_true.2 ⟨j, hj, by simp [hl]⟩)) h2
          · rfl
        · cases hl : p.insOK f x
          · exact absurd (.inr (List.any_eq_true.2 ⟨x, hx, by simp [hl]⟩)) h3
          · rfl
theorem live_lt {f : Fun} {j : Int} (h : f.live j = true) : 0 ≤ j ∧ j < f.blks.length ∧ ∃ b, f.blks[j.toNat]? = some b ∧ b.on = true := by
  simp only [Fun.live, Bool.and_eq_true, decide_eq_true_eq] at h
  obtain ⟨h0, h1⟩ := h
  cases hb : f.blks[j.toNat]? with
  | none => rw [hb] at h1; cases h1
  | some b =>
    rw [hb] at h1
    have := (List.getElem?_eq_some_iff.1 hb).1
    exact ⟨h0, by omega, b, rfl, h1⟩
theorem rises_at {l : List Int} (h : rises l = true) {lo : Int} (hlo : ∀ x ∈ l, lo ≤ x) : ∀ (k : Nat) (x : Int), l[k]? = some x → lo + k ≤ x := by
  have hr : risesTo l l.length := by simpa [rises] using h
  intro k
  induction k with
  | zero => intro x hx; have := hlo x (List.mem_of_getElem? hx); omega
  | succ k ih =>
    intro x hx
    have hlt := (List.getElem?_eq_some_iff.1 hx).1
    have h1 := hr k l[k] x (by omega) (List.getElem?_eq_getElem (by omega)) hx
    have := ih l[k] (List.getElem?_eq_getElem (by omega))
    omega
theorem FunOK.out {p : Prg} {f : Fun} (h : FunOK p f) : ∀ b ∈ f.blks, b.out.length < 64 ∧ ∀ j ∈ b.out, 0 ≤ j ∧ j < f.blks.length := by
  intro b hb
  obtain ⟨_, h1, h2, _⟩ := h.blk hb
  have h3 : ∀ j ∈ b.out, 0 ≤ j ∧ j < f.blks.length := fun j hj => ⟨(live_lt (h2 j hj)).1, (live_lt (h2 j hj)).2.1⟩
  refine ⟨?_, h3⟩
  have hl := h.len.2
  cases hz : b.out.length with
  | zero => omega
  | succ k =>
    have h4 := rises_at h1 (lo := 0) (fun x hx => (h3 x hx).1) k b.out[k] (List.getElem?_eq_getElem (by omega))
    have h5 := (h3 b.out[k] (List.getElem_mem _)).2
    omega
theorem fsl_one {α : Type} {e : α → List AV} {sz : Nat} {v : AV} {l : List α} (h : FSl e sz v l) : v.one = true := by
  rcases h with rfl | ⟨rfl, _⟩ <;> rfl
noncomputable def outsOf (l : List Blk) : List BSet := l.map fun b => bigOr (sol l) b.out
theorem outsOf_good (l : List Blk) : Good (outsOf l) := by
  intro s hs
  rw [outsOf, List.mem_map] at hs
  obtain ⟨b, _, rfl⟩ := hs
  exact bigOr_ok (sol_good l) b.out
theorem live_Out (p : Prg) (i : Int) (hp : p.Fit) {f : Fun} (hf : p.fn i = some f) : Ret P (gl N) false 17 [encP p, .int .i64 i] (encF setc 2 (outsOf f.blks)) := by
  refine Ret.in c17 (by simp) ?_
  have hok := fn_ok hf
  have hl := hok.len
  have hout := hok.out
  generalize hbs : f.blks = bs at *
  have h1 := live_Flow (N := N) p i hp hf (by rw [hbs]; exact hl.2)
  rw [hbs] at h1
  have h2 := solver_Solve (g := gl N) hl.2 hl.1 hout
  have hx := sol_good bs
  have hxl := sol_len bs
  have hxf : FSl setc 2 (.fsl 2 (els setc (sol bs))) (sol bs) := FSl.mk
  obtain ⟨w1, w2, w3, he, f1, f2, f3⟩ := flowE_cut bs
  rw [he] at h1 h2
  simp [k17]
  refine (h1).use (n := 9) (by simp [mapOpt, pict_stab p.funsS.stab]) (by simp [solids, AV.solid, p.funsS.solid]) ?_
  simp
  refine ⟨⟨fsl_one f1, fsl_one f2, fsl_one f3⟩, ?_⟩
  refine (h2).use (n := 9) (by simp [mapOpt, pict_stab f1.stab, pict_stab f2.stab, pict_stab f3.stab]) (by simp [solids, AV.solid, f1.solid, f2.solid, f3.solid]) ?_
  simp [f1.len]
  refine W.whileI (fun (a : Nat) F S => a ≤ bs.length ∧ F 6 = .fsl 2 (els setc (sol bs)) ∧ F 23 = w1 ∧ F 24 = .int .i64 bs.length ∧ F 25 = .int .i64 a ∧ SetsRow S (F 8) ((outsOf bs).take a)) (fun a => bs.length - a) ?_ 0 _ _ ?_
  · rintro a F S ⟨ha, h6, h23, h24, h25, hr⟩
    have hol : (outsOf bs).length = bs.length := by simp [outsOf]
    by_cases hlt : a < bs.length
    · have e4 := wrapS a (by omega)
      obtain ⟨b, hb⟩ : ∃ b, bs[a]? = some b := ⟨_, List.getElem?_eq_getElem hlt⟩
      have hbo := hout b (List.mem_of_getElem? hb)
      simp [h24, h25, hlt]
      simp [h23, h25, f1.idx hb]
      refine (new_ret).use (n := 9) ?_ rfl ?_ <;> simp [b.outS.len]
      let sk : Nat → BSet := fun k => (b.out.take k).foldl (fun s j => s.or ((sol bs).getD j.toNat (BSet.new 6))) (BSet.new 6)
      have hsk : ∀ k, (sk k).OK ∧ (sk k).n = 6 := fun k => by
        obtain ⟨h1, h2, _⟩ := bigOr_fold hx (b.out.take k) (BSet.new 6) (BSet.new_ok (by omega)) rfl
        exact ⟨h1, h2⟩
      refine W.whileI (fun (k : Nat) F' S' => k ≤ b.out.length ∧ F' 6 = .fsl 2 (els setc (sol bs)) ∧ F' 8 = F 8 ∧ F' 11 = .ptr S.next 0 0 ∧ F' 23 = w1 ∧ F' 24 = .int .i64 bs.length ∧ F' 25 = .int .i64 a ∧ F' 30 = b.outV ∧ F' 31 = .int .i64 b.out.length ∧ F' 32 = .int .i64 k ∧ Up S S' ∧ S.next < S'.next ∧ S'.obj S.next = some (.row 2 [setc (sk k)])) (fun k => b.out.length - k) ?_ 0 _ _ ?_
      · rintro k F' S' ⟨hk, h6, h8, h11, h23, h24, h25, h30, h31, h32, hup, hn, p2⟩
        by_cases hltk : k < b.out.length
        · obtain ⟨j, hj⟩ : ∃ j, b.out[k]? = some j := ⟨_, List.getElem?_eq_getElem hltk⟩
          obtain ⟨hj0, hjn⟩ := hbo.2 j (List.mem_of_getElem? hj)
          obtain ⟨jn, rfl⟩ : ∃ n : Nat, j = (n : Int) := ⟨j.toNat, by omega⟩
          obtain ⟨sj, hsj⟩ : ∃ s, (sol bs)[jn]? = some s := ⟨_, List.getElem?_eq_getElem (by omega)⟩
          have hsjo := hx sj (List.mem_of_getElem? hsj)
          have e5 := wrapS k (by omega)
          have hst : sk (k + 1) = (sk k).or sj := by
            show (b.out.take (k + 1)).foldl _ _ = _
            rw [foldl_take_succ _ _ _ _ _ hj]
            simp [List.getD_eq_getElem?_getD, hsj, sk]
          simp [h31, h32, hltk]
          simp [h30, h32, b.outS.idx hj, intc]
          refine Dra.auto [] mix ?_ ?_
          · kernel_rfl
          simp [classes, h6, h11, p2, hxf.idx hsj]
          refine (union_ret (hsk k).1 hsjo.1).b (n := 9) ?_ rfl ?_ <;> simp [(hsk k).2, hsjo.2, p2]
          simp [h6, h8, h11, h23, h24, h25, h30, h31, h32, e5, p2]
          refine ⟨k + 1, by omega, by omega, by omega, hup.put (Nat.le_refl _) _, hn, ?_⟩
          rw [hst]
          simp [BSet.or_n, (hsk k).2, hsjo.2]
        · have : k = b.out.length := by omega
          subst this
          have hfin : sk b.out.length = bigOr (sol bs) b.out := by
            show (b.out.take b.out.length).foldl _ _ = _
            rw [List.take_length]; rfl
          rw [hfin] at p2
          have hbig := bigOr_ok hx b.out
          have hgo : ∀ s ∈ (outsOf bs).take a, s.ws ≠ [] := fun s hs => by
            have := outsOf_good bs s (List.mem_of_mem_take hs)
            intro h
            have hl := this.1.len
            rw [h, this.2] at hl
            simp [nw] at hl
          simp [h31, h32, h8, h11, p2]
          refine SetsRow.push2 ((hr.up hup hgo).up (Up.new _ _) hgo) (.inl rfl) (by simp [room]; omega) fun v' S'' e k1 k2 k3 => ?_
          simp [h6, h23, h24, h25, e4]
          refine ⟨a + 1, by omega, by omega, by omega, ?_⟩
          rw [take_succ_get (x := bigOr (sol bs) b.out) (by simp [outsOf, hb])]
          exact k1
      · simp [h6, h23, h24, h25]
        exact ⟨(Up.new _ _).put (Nat.le_refl _) _, by simp [sk], by simp [sk]⟩
    · have : a = bs.length := by omega
      subst this
      rw [List.take_of_length_le (by omega)] at hr
      simp [h24, h25]
      exact ⟨9, hr.pict fun s hs => (outsOf_good bs s hs).1⟩
  · simp
    exact .inl ⟨rfl, rfl⟩
end Go.Proofs.YtchkknkjhiaooaaGreatDoor.Vm
namespace Go.Proofs.YtchkknkjhiaooaaGreatDoor.Vm
open Go Go.RowKit
variable {N : Nat} {g : Glob}
theorem FSl.from {α : Type} {e : α → List AV} {sz : Nat} {v : AV} {l : List α} (h : FSl e sz v l) {k : Nat} (hk : k ≤ l.length) : ∃ v', pk (.slice sz true false false) [v, .int .i64 (k : Int)] = some v' ∧ FSl e sz v' (l.drop k) := by
  rcases h with rfl | ⟨rfl, rfl⟩
  · refine ⟨.fsl sz (els e (l.drop k)), ?_, .inl rfl⟩
    simp [pk, bnds, hk, els, List.take_of_length_le]
  · refine ⟨.nilsl, ?_, .inr ⟨rfl, by simp⟩⟩
    have : k = 0 := by simpa using hk
    subst this
    simp [pk, bnds]
noncomputable def Fun.at (f : Fun) (b : Blk) (k : Nat) : BSet := (b.ins.drop k).foldr Ins.live (bigOr (sol f.blks) b.out)
noncomputable def Prg.at (p : Prg) (i j k : Int) : BSet := match p.fn i with
  | none => BSet.new 6
  | some f => match f.blk j with
    | none => BSet.new 6
    | some b => if 0 ≤ k ∧ k ≤ b.ins.length then f.at b k.toNat else BSet.new 6
theorem foldr_live_ok (l : List Ins) {s : BSet} (hs : s.OK) : (l.foldr Ins.live s).OK ∧ (l.foldr Ins.live s).n = s.n := by
  have := liveTo_ok l hs l.length
  rwa [liveTo_all] at this
theorem Fun.at_ok (f : Fun) (b : Blk) (k : Nat) : (f.at b k).OK ∧ (f.at b k).n = 6 := by
  have h := bigOr_ok (sol_good f.blks) b.out
  have h2 := foldr_live_ok (b.ins.drop k) h.1
  exact ⟨h2.1, h2.2.trans h.2⟩
theorem Prg.at_ok (p : Prg) (i j k : Int) : (p.at i j k).OK ∧ (p.at i j k).n = 6 := by
  unfold Prg.at
  split
  · exact ⟨BSet.new_ok (by omega), rfl⟩
  · split
    · exact ⟨BSet.new_ok (by omega), rfl⟩
    · split
      · exact Fun.at_ok _ _ _
      · exact ⟨BSet.new_ok (by omega), rfl⟩
theorem live_At (p : Prg) (i j k : Int) (hp : p.Fit) : Ret P (gl N) false 20 [encP p, .int .i64 i, .int .i64 j, .int .i64 k] (encB (p.at i j k)) := by
  refine Ret.in c20 (by simp) ?_
  simp [k20]
  refine (prog_Block p i j hp).use (n := 9) (by simp [mapOpt, pict_stab p.funsS.stab]) (by simp [solids, AV.solid, p.funsS.solid]) ?_
  simp
  cases hb : p.blk i j with
  | none =>
    have hat : p.at i j k = BSet.new 6 := by
      unfold Prg.at
      split
      · rfl
      · rename_i f hf
        have : f.blk j = none := by simpa [Prg.blk, hf] using hb
        rw [this]
    simp
    refine (new_ret).use (n := 9) ?_ rfl ?_ <;> simp
    exact ⟨9, by simp [hat, mapOpt]⟩
  | some b =>
    obtain ⟨f, hf, hfb⟩ : ∃ f, p.fn i = some f ∧ f.blk j = some b := by
      unfold Prg.blk at hb
      cases hf : p.fn i with
      | none => rw [hf] at hb; cases hb
      | some f => rw [hf] at hb; exact ⟨f, rfl, hb⟩
    have hbj : f.live j = true ∧ f.blks[j.toNat]? = some b := by
      unfold Fun.blk at hfb
      split at hfb
      · rename_i h; exact ⟨h, hfb⟩
      · cases hfb
    have hat : p.at i j k = if 0 ≤ k ∧ k ≤ b.ins.length then f.at b k.toNat else BSet.new 6 := by
      unfold Prg.at
      rw [hf]; simp only [hfb]
    simp
    refine gua_decF (fun h1 => ?_) (fun h1 => ?_) <;> simp [h1, b.insS.len]
    · refine bra_dec (fun h2 => ?_) (fun h2 => ?_) <;> simp [h2]
      · refine (new_ret).use (n := 9) ?_ rfl ?_ <;> simp
        exact ⟨9, by simp [hat, mapOpt, show ¬ (k ≤ (b.ins.length : Int)) by omega]⟩
      · obtain ⟨kn, rfl⟩ : ∃ n : Nat, k = (n : Int) := ⟨k.toNat, by omega⟩
        obtain ⟨jn, rfl⟩ : ∃ n : Nat, j = (n : Int) := ⟨j.toNat, by have := (live_lt hbj.1).1; omega⟩
        obtain ⟨v', hv', hvf⟩ := b.insS.from (k := kn) (by omega)
        have hbl := (fn_fit hp hf).ins b (List.mem_of_getElem? hbj.2)
        have hof : FSl setc 2 (encF setc 2 (outsOf f.blks)) (outsOf f.blks) := encF_sl
        have hoj : (outsOf f.blks)[jn]? = some (bigOr (sol f.blks) b.out) := by simp only [outsOf, List.getElem?_map]; have := hbj.2; simp only [Int.toNat_natCast] at this; rw [this]; rfl
        have hog := bigOr_ok (sol_good f.blks) b.out
        refine Dra.auto [] mix ?_ ?_
        · kernel_rfl
        simp [classes]
        refine (live_Out p i hp hf).b (n := 9) (by simp [mapOpt, pict_stab p.funsS.stab]) (by simp [solids, AV.solid, p.funsS.solid]) ?_
        simp [hof.idx hoj, hv']
        refine (live_ahead (b.ins.drop kn) v' (bigOr (sol f.blks) b.out) hvf (by simp; omega) hog.1).b (n := 9) (by simp [mapOpt, pict_stab hvf.stab]) (by simp [solids, AV.solid, hvf.solid]) ?_
        simp
        have hat2 : p.at i (jn : Int) (kn : Int) = (b.ins.drop kn).foldr Ins.live (bigOr (sol f.blks) b.out) := by
          rw [hat, if_pos (by omega)]; rfl
        rw [hat2]
        exact ⟨9, by simp [mapOpt]⟩
    · refine (new_ret).use (n := 9) ?_ rfl ?_ <;> simp
      exact ⟨9, by simp [hat, mapOpt, show ¬ (0 ≤ k) by omega]⟩
theorem live_Is (p : Prg) (i j k v : Int) (hp : p.Fit) : Ret P (gl N) false 55 [encP p, .int .i64 i, .int .i64 j, .int .i64 k, .int .i64 v] (.bool ((p.at i j k).isB v && (p.at i j k).mem v.toNat)) := by
  refine Ret.in c55 (by simp) ?_
  simp [k55]
  refine (live_At p i j k hp).use (n := 9) (by simp [mapOpt, pict_stab p.funsS.stab]) (by simp [solids, AV.solid, p.funsS.solid]) ?_
  simp
  refine (bits_Has (p.at i j k) v (p.at_ok i j k).1).use (n := 9) (by simp [mapOpt]) rfl ?_
  simp
  exact RK.eq rfl rfl
end Go.Proofs.YtchkknkjhiaooaaGreatDoor.Vm
namespace Go.Proofs.YtchkknkjhiaooaaGreatDoor.Vm
open Go Go.RowKit
variable {N : Nat} {g : Glob}
def awB : Blk := ⟨true, [⟨0, 3, 1, 0, 0, 0, 0, 0, 0, 0, 0⟩, ⟨1, 8, 0, 1, 0, 0, 0, 0, 0, 0, 0⟩], false, [], true⟩
def awF : Fun := ⟨0, 2, [awB], false⟩
def awP : Prg := ⟨[awF], false⟩
theorem awP_fit : awP.Fit := by
  refine ⟨by decide, fun f hf => ?_⟩
  simp only [awP, List.mem_singleton] at hf
  subst hf
  refine ⟨by decide, fun b hb => ?_, fun b hb => ?_⟩ <;> simp only [awF, List.mem_singleton] at hb <;> subst hb <;> decide
theorem insOK_of {p : Prg} {f : Fun} {i : Ins} (h1 : i.ok = true) (h2 : ∀ x ∈ i.uses, x < f.vars) (h3 : i.def < f.vars) (h4 : i.kind ≠ 7) : p.insOK f i = true := by
  have hv : (i.vars.any fun x => decide (f.vars ≤ x)) = false := by
    rw [List.any_eq_false]
    intro x hx
    rw [vars_mem] at hx
    rcases hx with hx | ⟨_, rfl⟩
    · have := h2 x hx; simp; omega
    · simp; omega
  simp [Prg.insOK, h1, hv, h4]
theorem awP_sane : awP.sane = true := by
  rw [Prg.sane_iff]
  refine ⟨by decide, fun f hf => ?_, ?_⟩
  · simp only [awP, List.mem_singleton] at hf
    subst hf
    have h1 : awF.varsOK := by decide
    have h2 : awF.blksOK := by decide
    rw [Prg.funMsg, if_neg (by simpa using h1), if_neg (by simpa using h2)]
    have hb : awP.blkMsg awF awB = [] := by
      have hr : rises awB.out = true := by simp [rises, risesTo, awB]
      have hi : (awB.ins.any fun i => !awP.insOK awF i) = false := by
        rw [List.any_eq_false]
        intro x hx
        simp only [awB, List.mem_cons, List.not_mem_nil, or_false] at hx
        rcases hx with rfl | rfl
        · rw [insOK_of (by decide) (by decide) (by decide) (by decide)]; simp
        · rw [insOK_of (by decide) (by decide) (by decide) (by decide)]; simp
      rw [Prg.blkMsg, hr, hi]
      decide
    show firstMsg awP awF [awB] = []
    rw [firstMsg, if_pos hb, firstMsg]
  · decide
theorem awP_fn : awP.fn 0 = some awF := by
  unfold Prg.fn
  rw [if_pos ⟨by omega, awP_sane⟩]; rfl
theorem awP_at (k : Int) (hk : 0 ≤ k ∧ k ≤ 2) : awP.at 0 0 k = (awB.ins.drop k.toNat).foldr Ins.live (BSet.new 6) := by
  unfold Prg.at
  rw [awP_fn]
  have hb : awF.blk 0 = some awB := rfl
  simp only [hb]
  have hl : awB.ins.length = 2 := rfl
  rw [if_pos (by omega)]
  rfl
def awV0 : AV := .fsl 11 (els insc awB.ins)
def awV1 : AV := .fsl 3 [[.bool true, awV0, .nilsl]]
def awV2 : AV := .fsl 3 [[.int .i64 0, .int .i64 2, awV1]]
def awS0 : St := (((((St.empty.new (AObj.row 11 [[AV.int IntKind.i64 0, AV.int IntKind.i64 3, AV.int IntKind.i64 1, AV.int IntKind.i64 0, AV.int IntKind.i64 0, AV.int IntKind.i64 0, AV.int IntKind.i64 0, AV.int IntKind.i64 0, AV.int IntKind.i64 0, AV.int IntKind.i64 0, AV.int IntKind.i64 0],
    [AV.int IntKind.i64 1, AV.int IntKind.i64 8, AV.int IntKind.i64 0, AV.int IntKind.i64 1, AV.int IntKind.i64 0, AV.int IntKind.i64 0, AV.int IntKind.i64 0, AV.int IntKind.i64 0, AV.int IntKind.i64 0, AV.int IntKind.i64 0, AV.int IntKind.i64 0]])).new (AObj.row 3 [[AV.bool true, AV.sl 11 0 0 2, AV.nilsl]])).new (AObj.row 3 [[AV.int IntKind.i64 0, AV.int IntKind.i64 2, AV.sl 3 1 0 1]])).new (AObj.row 1 [[AV.nilsl]])).set 3 (AObj.row 1 [[AV.sl 3 2 0 1]]))
def awS1 : St := (awS0.drop 0).set 1 (.row 3 [[.bool true, awV0, .nilsl]])
def awS2 : St := (awS1.drop 1).set 2 (.row 3 [[.int .i64 0, .int .i64 2, awV1]])
def awS3 : St := (awS2.drop 2).set 3 (.row 1 [[awV2]])
theorem awZ1 : Fzn awS0 awS1 0 := by
  refine ⟨rfl, rfl, fun sz es he z hz => ?_, fun q hq => ?_⟩
  · have h0 : awS0.obj 0 = some (.row 11 (els insc awB.ins)) := rfl
    rw [h0] at he; cases he
    have : (els insc awB.ins).flatten.all AV.solid = true := by decide
    exact List.all_eq_true.1 this z hz
  · by_cases h1 : q = 1
    · subst h1
      exact .inr (.inr ⟨3, _, _, rfl, rfl, ⟨.inl rfl, .inr ⟨11, 0, 2, els insc awB.ins, rfl, rfl, by decide, rfl⟩, .inl rfl, trivial⟩, trivial⟩)
    · exact .inr (.inl (by simp [awS1, hq, h1]))
theorem awZ2 : Fzn awS1 awS2 1 := by
  refine ⟨rfl, rfl, fun sz es he z hz => ?_, fun q hq => ?_⟩
  · have h0 : awS1.obj 1 = some (.row 3 [[.bool true, awV0, .nilsl]]) := rfl
    rw [h0] at he; cases he
    have : ([[AV.bool true, awV0, AV.nilsl]] : List (List AV)).flatten.all AV.solid = true := by decide
    exact List.all_eq_true.1 this z hz
  · by_cases h1 : q = 2
    · subst h1
      exact .inr (.inr ⟨3, _, _, rfl, rfl, ⟨.inl rfl, .inl rfl, .inr ⟨3, 0, 1, _, rfl, rfl, by decide, rfl⟩, trivial⟩, trivial⟩)
    · exact .inr (.inl (by simp [awS2, hq, h1]))
theorem awZ3 : Fzn awS2 awS3 2 := by
  refine ⟨rfl, rfl, fun sz es he z hz => ?_, fun q hq => ?_⟩
  · have h0 : awS2.obj 2 = some (.row 3 [[.int .i64 0, .int .i64 2, awV1]]) := rfl
    rw [h0] at he; cases he
    have : ([[AV.int .i64 0, AV.int .i64 2, awV1]] : List (List AV)).flatten.all AV.solid = true := by decide
    exact List.all_eq_true.1 this z hz
  · by_cases h1 : q = 3
    · subst h1
      exact .inr (.inr ⟨1, _, _, rfl, rfl, ⟨.inr ⟨3, 0, 1, _, rfl, rfl, by decide, rfl⟩, trivial⟩, trivial⟩)
    · exact .inr (.inl (by simp [awS3, hq, h1]))
theorem awP_pict1 : mapOpt (pict awS1 [] 9) [.agg [.sl 3 2 0 1], .int .i64 0, .int .i64 0, .int .i64 0, .int .i64 1] = some [encP awP, .int .i64 0, .int .i64 0, .int .i64 0, .int .i64 1] := by rfl
theorem awP_pict2 : mapOpt (pict awS2 [] 9) [.agg [.sl 3 2 0 1], .int .i64 0, .int .i64 0, .int .i64 1, .int .i64 1] = some [encP awP, .int .i64 0, .int .i64 0, .int .i64 1, .int .i64 1] := by rfl
theorem awP_pict3 : mapOpt (pict awS3 [] 9) [.agg [awV2], .int .i64 0] = some [encP awP, .int .i64 0] := by rfl
theorem awP_pict0 : mapOpt (pict awS0 [] 9) [.agg [.sl 3 2 0 1], .int .i64 0, .int .i64 0, .int .i64 0, .int .i64 0] = some [encP awP, .int .i64 0, .int .i64 0, .int .i64 0, .int .i64 0] := by rfl
theorem awake_ret : Ret P (gl N) false 14 [] (.bool true) := by
  refine Ret.in c14 (by simp) ?_
  simp [k14]
  have m00 : ((awP.at 0 0 0).isB 0 && (awP.at 0 0 0).mem (0 : Int).toNat) = true := by rw [awP_at 0 (by omega)]; decide
  have m01 : ((awP.at 0 0 0).isB 1 && (awP.at 0 0 0).mem (1 : Int).toNat) = false := by rw [awP_at 0 (by omega)]; decide
  have m11 : ((awP.at 0 0 1).isB 1 && (awP.at 0 0 1).mem (1 : Int).toNat) = true := by rw [awP_at 1 (by omega)]; decide
  rw [show (((((St.empty.new (AObj.row 11 [[AV.int IntKind.i64 0, AV.int IntKind.i64 3, AV.int IntKind.i64 1, AV.int IntKind.i64 0, AV.int IntKind.i64 0, AV.int IntKind.i64 0, AV.int IntKind.i64 0, AV.int IntKind.i64 0, AV.int IntKind.i64 0, AV.int IntKind.i64 0, AV.int IntKind.i64 0],
    [AV.int IntKind.i64 1, AV.int IntKind.i64 8, AV.int IntKind.i64 0, AV.int IntKind.i64 1, AV.int IntKind.i64 0, AV.int IntKind.i64 0, AV.int IntKind.i64 0, AV.int IntKind.i64 0, AV.int IntKind.i64 0, AV.int IntKind.i64 0, AV.int IntKind.i64 0]])).new (AObj.row 3 [[AV.bool true, AV.sl 11 0 0 2, AV.nilsl]])).new (AObj.row 3 [[AV.int IntKind.i64 0, AV.int IntKind.i64 2, AV.sl 3 1 0 1]])).new (AObj.row 1 [[AV.nilsl]])).set 3 (AObj.row 1 [[AV.sl 3 2 0 1]])) = awS0 from rfl]
  refine Cal.freeze ((live_Is awP 0 0 0 0 awP_fit).use (n := 9) awP_pict0 (by rfl) (.inr ⟨0, _, awS1, .inl rfl, awZ1, ?_⟩))
  rw [m00]
  have b1 : awS1.obj 3 = some (.row 1 [[.sl 3 2 0 1]]) := rfl
  simp [b1]
  refine Cal.freeze ((live_Is awP 0 0 0 1 awP_fit).use (n := 9) awP_pict1 (by rfl) (.inr ⟨1, _, awS2, .inl rfl, awZ2, ?_⟩))
  rw [m01]
  have b2 : awS2.obj 3 = some (.row 1 [[.sl 3 2 0 1]]) := rfl
  simp [b2]
  refine Cal.freeze ((live_Is awP 0 0 1 1 awP_fit).use (n := 9) awP_pict2 (by rfl) (.inr ⟨2, _, awS3, .inl rfl, awZ3, ?_⟩))
  rw [m11]
  have b3 : awS3.obj 3 = some (.row 1 [[awV2]]) := rfl
  simp [b3]
  refine (live_Out awP 0 awP_fit awP_fn).use (n := 9) awP_pict3 (by decide) ?_
  have hf : FSl setc 2 (encF setc 2 (outsOf awF.blks)) (outsOf awF.blks) := encF_sl
  have hl : (outsOf awF.blks).length = 1 := by simp [outsOf, awF]
  simp [hf.len, hl]
  exact RK.eq rfl rfl
end Go.Proofs.YtchkknkjhiaooaaGreatDoor.Vm
namespace Go.Proofs.YtchkknkjhiaooaaGreatDoor.Vm
open Go Go.RowKit
variable {N : Nat} {g : Glob}
theorem isB_eq {s : BSet} (hn : s.n = 6) {v : Nat} (hv : v < 6) (d : Int) : (s.isB d && decide ((v : Int) = d)) = decide ((v : Int) = d) := by
  by_cases h : (v : Int) = d
  · subst h; simp [BSet.isB, hn]; omega
  · simp [h]
theorem live_mem (x : Ins) {s : BSet} (hs : s.OK) (hn : s.n = 6) {v : Nat} (hv : v < 6) : (x.live s).mem v = ((s.mem v && !decide ((v : Int) = x.def)) || decide ((v : Int) ∈ x.uses)) := by
  rw [Ins.live, BSet.or_mem (BSet.without_ok hs _) (BSet.ofL_ok hs.n _), BSet.ofL_mem hs.n, hn, BSet.mem_without hs, isB_eq hn hv]
  simp [hv]
theorem foldr_live_mem (l : List Ins) {s : BSet} (hs : s.OK) (hn : s.n = 6) {v : Nat} (hv : v < 6) : (l.foldr Ins.live s).mem v = ((l.foldr Ins.live (BSet.new 6)).mem v || (s.mem v && !(l.foldr (fun i s => s.with i.def) (BSet.new 6)).mem v)) := by
  have h6 : (BSet.new 6).OK := BSet.new_ok (by omega)
  induction l with
  | nil => simp [BSet.new_mem]
  | cons x l ih =>
    have o1 := foldr_live_ok l hs
    have o2 := foldr_live_ok l h6
    have o3 := killTo_ok l h6 l.length
    rw [killTo_all] at o3
    rw [List.foldr_cons, List.foldr_cons, List.foldr_cons, live_mem x o1.1 (o1.2.trans hn) hv, live_mem x o2.1 o2.2 hv, BSet.mem_with o3.1, isB_eq o3.2 hv, ih]
    cases (List.foldr Ins.live (BSet.new 6) l).mem v <;> cases s.mem v <;> cases (List.foldr (fun i s => s.with i.def) (BSet.new 6) l).mem v <;> cases decide ((v : Int) = x.def) <;> cases decide ((v : Int) ∈ x.uses) <;> rfl
theorem Fun.at_zero (f : Fun) (b : Blk) : f.at b 0 = b.eval (sol f.blks) := by
  have hg := sol_good f.blks
  have h1 := f.at_ok b 0
  have h2 := b.eval_ok hg
  have hb := bigOr_ok hg b.out
  refine BSet.ext h1.1 h2.1 (by rw [h1.2, h2.2]) fun v hv => ?_
  rw [h1.2] at hv
  rw [Fun.at, List.drop_zero, foldr_live_mem _ hb.1 hb.2 hv, Blk.eval_mem b hg, bigOr_mem hg]
  rfl
theorem Fun.at_sol {f : Fun} {j : Nat} {b : Blk} (hb : f.blks[j]? = some b) : f.at b 0 = solAt f.blks j := by rw [f.at_zero, sol_fix hb]
theorem at_blk {p : Prg} {i : Int} {f : Fun} (hf : p.fn i = some f) {j : Nat} {b : Blk} (hb : f.blks[j]? = some b) (hon : b.on = true) {k : Nat} (hk : k ≤ b.ins.length) : p.at i j k = f.at b k := by
  have h : f.blk (j : Int) = some b := by
    have : f.live (j : Int) = true := by simp [Fun.live, hb, hon]
    simp [Fun.blk, this, hb]
  unfold Prg.at
  rw [hf]
  simp only [h]
  rw [if_pos (by omega)]
  rfl
end Go.Proofs.YtchkknkjhiaooaaGreatDoor.Vm
namespace Go.Proofs.YtchkknkjhiaooaaGreatDoor.Vm
open Go Go.RowKit
structure Sys (α : Type) where
  n : Nat
  ev : List α → Nat → α
  rd : Nat → List Int
  ok : α → Prop
  le : α → α → Prop
  bot : α
  ht : α → Nat
  top : Nat
  refl : ∀ a, ok a → le a a
  trans : ∀ a b c, ok a → ok b → ok c → le a b → le b c → le a c
  anti : ∀ a b, ok a → ok b → le a b → le b a → a = b
  botOk : ok bot
  botLe : ∀ a, ok a → le bot a
  htop : ∀ a, ok a → ht a ≤ top
  hlt : ∀ a b, ok a → ok b → le a b → a ≠ b → ht a < ht b
  evOk : ∀ x i, x.length = n → (∀ a ∈ x, ok a) → i < n → ok (ev x i)
  mono : ∀ x y i, x.length = n → y.length = n → (∀ a ∈ x, ok a) → (∀ a ∈ y, ok a) → (∀ (k : Nat) a b, x[k]? = some a → y[k]? = some b → le a b) → i < n → le (ev x i) (ev y i)
  dep : ∀ x i (k : Nat) a, (∀ j ∈ rd i, j.toNat ≠ k) → ev (x.set k a) i = ev x i
  nn : ∀ i, ∀ j ∈ rd i, 0 ≤ j
variable {α : Type} (Y : Sys α)
structure Sys.Fit (x : List α) : Prop where
  len : x.length = Y.n
  ok : ∀ a ∈ x, Y.ok a
def Sys.Post (y : List α) : Prop := Y.Fit y ∧ ∀ (i : Nat) a, y[i]? = some a → Y.le (Y.ev y i) a
structure Sys.Mid (x : List α) (T : Nat → Prop) : Prop where
  fit : Y.Fit x
  low : ∀ y, Y.Post y → ∀ (i : Nat) a b, x[i]? = some a → y[i]? = some b → Y.le a b
  pre : ∀ (i : Nat) a, x[i]? = some a → Y.le a (Y.ev x i)
  fix : ∀ (i : Nat) a, x[i]? = some a → ¬ T i → a = Y.ev x i
variable {Y}
theorem Sys.Fit.at {x : List α} (h : Y.Fit x) {i : Nat} (hi : i < Y.n) : ∃ a, x[i]? = some a ∧ Y.ok a := by
  have hl : i < x.length := by rw [h.len]; exact hi
  exact ⟨x[i], List.getElem?_eq_getElem hl, h.ok _ (List.getElem_mem _)⟩
theorem Sys.Fit.lt {x : List α} (h : Y.Fit x) {i : Nat} {a : α} (ha : x[i]? = some a) : i < Y.n ∧ Y.ok a := ⟨by rw [← h.len]; exact (List.getElem?_eq_some_iff.1 ha).1, h.ok a (List.mem_of_getElem? ha)⟩
theorem Sys.Fit.ev {x : List α} (h : Y.Fit x) {i : Nat} (hi : i < Y.n) : Y.ok (Y.ev x i) := Y.evOk x i h.len h.ok hi
theorem Sys.Fit.set {x : List α} (h : Y.Fit x) {i : Nat} {a : α} (ha : Y.ok a) : Y.Fit (x.set i a) := by
  refine ⟨by simp [h.len], fun b hb => ?_⟩
  rcases List.mem_or_eq_of_mem_set hb with h1 | h1
  · exact h.ok b h1
  · rw [h1]; exact ha
theorem Sys.Mid.start : Y.Mid (List.replicate Y.n Y.bot) (fun i => i < Y.n) := by
  have hm : ∀ (i : Nat) a, (List.replicate Y.n Y.bot)[i]? = some a → a = Y.bot := fun i a h => by
    have := List.mem_of_getElem? h
    rw [List.mem_replicate] at this
    exact this.2
  have hf : Y.Fit (List.replicate Y.n Y.bot) := ⟨by simp, fun a ha => by rw [List.mem_replicate] at ha; rw [ha.2]; exact Y.botOk⟩
  refine ⟨hf, fun y hy i a b ha hb => ?_, fun i a ha => ?_, fun i a ha hT => ?_⟩
  · rw [hm i a ha]; exact Y.botLe b (hy.1.ok b (List.mem_of_getElem? hb))
  · rw [hm i a ha]; exact Y.botLe _ (hf.ev (hf.lt ha).1)
  · exact absurd (hf.lt ha).1 hT
theorem set_same {α : Type} {x : List α} {i : Nat} {a : α} (h : x[i]? = some a) : x.set i a = x := by
  obtain ⟨hlt, h⟩ := List.getElem?_eq_some_iff.1 h
  rw [← h]; exact List.set_getElem_self hlt
theorem Sys.Mid.step {x : List α} {T T' : Nat → Prop} (h : Y.Mid x T) {i : Nat} {s : α} (hs : x[i]? = some s)
    (hT : ∀ k, ¬ T' k → k = i ∨ ¬ T k) (hr : s ≠ Y.ev x i → ∀ k, k < Y.n → (i : Int) ∈ Y.rd k → T' k) : Y.Mid (x.set i (Y.ev x i)) T' := by
  have hi := (h.fit.lt hs).1
  have hok := h.fit.ev hi
  have hil : i < x.length := by rw [h.fit.len]; exact hi
  have hf' := h.fit.set (i := i) hok
  have hge : ∀ (k : Nat) a b, x[k]? = some a → (x.set i (Y.ev x i))[k]? = some b → Y.le a b := fun k a b ha hb => by
    by_cases hk : k = i
    · subst hk
      rw [List.getElem?_set_self hil] at hb
      cases hb
      exact h.pre k a ha
    · rw [List.getElem?_set_ne (Ne.symm hk)] at hb
      rw [ha] at hb; cases hb
      exact Y.refl a (h.fit.lt ha).2
  have hup : ∀ k, k < Y.n → Y.le (Y.ev x k) (Y.ev (x.set i (Y.ev x i)) k) := fun k hk => Y.mono _ _ k h.fit.len hf'.len h.fit.ok hf'.ok hge hk
  refine ⟨hf', fun y hy k a b ha hb => ?_, fun k a ha => ?_, fun k a ha hnT => ?_⟩
  · by_cases hk : k = i
    · subst hk
      rw [List.getElem?_set_self hil] at ha
      cases ha
      have h1 := Y.mono x y k h.fit.len hy.1.len h.fit.ok hy.1.ok (fun j a b ha hb => h.low y hy j a b ha hb) hi
      exact Y.trans _ _ _ hok (hy.1.ev hi) (hy.1.lt hb).2 h1 (hy.2 k b hb)
    · rw [List.getElem?_set_ne (Ne.symm hk)] at ha
      exact h.low y hy k a b ha hb
  · by_cases hk : k = i
    · subst hk
      rw [List.getElem?_set_self hil] at ha
      cases ha
      exact hup k hi
    · rw [List.getElem?_set_ne (Ne.symm hk)] at ha
      have h1 := h.fit.lt ha
      exact Y.trans _ _ _ h1.2 (h.fit.ev h1.1) (hf'.ev h1.1) (h.pre k a ha) (hup k h1.1)
  · by_cases he : s = Y.ev x i
    · rw [← he, set_same hs] at ha ⊢
      by_cases hk : k = i
      · subst hk
        rw [hs] at ha; cases ha
        exact he
      · exact h.fix k a ha ((hT k hnT).resolve_left hk)
    · have hkn := (hf'.lt ha).1
      have hno : ∀ j ∈ Y.rd k, j.toNat ≠ i := by
        intro j hj e
        have := Y.nn k j hj
        exact hnT (hr he k hkn (by rw [← e, Int.toNat_of_nonneg this]; exact hj))
      rw [Y.dep x k i _ hno]
      by_cases hk : k = i
      · subst hk
        rw [List.getElem?_set_self hil] at ha
        cases ha; rfl
      · rw [List.getElem?_set_ne (Ne.symm hk)] at ha
        exact h.fix k a ha ((hT k hnT).resolve_left hk)
structure Sys.Least (Y : Sys α) (x : List α) : Prop where
  fit : Y.Fit x
  fix : ∀ (i : Nat) a, x[i]? = some a → a = Y.ev x i
  low : ∀ y, Y.Post y → ∀ (i : Nat) a b, x[i]? = some a → y[i]? = some b → Y.le a b
theorem Sys.Mid.done {x : List α} {T : Nat → Prop} (h : Y.Mid x T) (hT : ∀ k, ¬ T k) : Y.Least x := ⟨h.fit, fun i a ha => h.fix i a ha (hT i), h.low⟩
theorem Sys.Least.post {x : List α} (h : Y.Least x) : Y.Post x := ⟨h.fit, fun i a ha => by
  have := h.fix i a ha
  rw [← this]
  exact Y.refl a (h.fit.lt ha).2⟩
theorem Sys.Least.eq {x y : List α} (h : Y.Least x) (h' : Y.Least y) : x = y := by
  apply List.ext_getElem?
  intro i
  by_cases hi : i < Y.n
  · obtain ⟨a, ha, ka⟩ := h.fit.at hi
    obtain ⟨b, hb, kb⟩ := h'.fit.at hi
    rw [ha, hb, Y.anti a b ka kb (h.low y h'.post i a b ha hb) (h'.low x h.post i b a hb ha)]
  · rw [List.getElem?_eq_none (by rw [h.fit.len]; omega), List.getElem?_eq_none (by rw [h'.fit.len]; omega)]
noncomputable def Sys.sol (Y : Sys α) : List α := open Classical in if h : ∃ x, Y.Least x then h.choose else []
theorem Sys.Least.sol {x : List α} (h : Y.Least x) : x = Y.sol := by
  unfold Sys.sol
  rw [dif_pos ⟨x, h⟩]
  exact h.eq (Exists.choose_spec (⟨x, h⟩ : ∃ x, Y.Least x))
def Sys.gap (Y : Sys α) (x : List α) : Nat := (x.map fun a => Y.top - Y.ht a).sum
theorem Sys.gap_set {x : List α} (hx : ∀ a ∈ x, Y.ok a) {i : Nat} {s t : α} (hs : x[i]? = some s) (ht : Y.ok t) (hle : Y.le s t) (hne : s ≠ t) : Y.gap (x.set i t) < Y.gap x := by
  have hso := hx s (List.mem_of_getElem? hs)
  have h1 := Y.hlt s t hso ht hle hne
  have h2 := Y.htop t ht
  unfold Sys.gap
  clear hx
  induction x generalizing i with
  | nil => simp at hs
  | cons a x ih =>
    cases i with
    | zero =>
      simp at hs; subst hs
      simp only [List.set_cons_zero, List.map_cons, List.sum_cons]
      omega
    | succ i =>
      simp only [List.set_cons_succ, List.map_cons, List.sum_cons]
      have := ih (by simpa using hs)
      omega
end Go.Proofs.YtchkknkjhiaooaaGreatDoor.Vm
namespace Go.Proofs.YtchkknkjhiaooaaGreatDoor.Vm
open Go Go.RowKit
variable {N : Nat} {g : Glob}
abbrev Env := Option (List Val)
@[simp] def valc (v : Val) : List AV := [.int .i64 v.k, .int .i64 v.c]
instance : PlainE valc := ⟨fun x => by simp [valc, AV.stab]⟩
def envc : Env → List AV
  | none => [.bool false, .nilsl]
  | some l => [.bool true, .fsl 2 (els valc l)]
@[simp] theorem envc_none : envc none = [.bool false, .nilsl] := _root_.id rfl
@[simp] theorem envc_some {l : List Val} : envc (some l) = [.bool true, .fsl 2 (els valc l)] := _root_.id rfl
@[simp] def encE (e : Env) : AV := .agg (envc e)
def opsV : AV := .agg [.func (.func 150) [] [], .func (.func 95) [] []]
theorem pict_rowP {α : Type} {e : α → List AV} [PlainE e] {S : St} {o sz k n : Nat} {l : List α} (h : S.obj o = some (.row sz (els e l))) (hk : l.length = k) : pict S [] (n + 2) (.sl sz o 0 k) = some (.fsl sz (els e l)) := by
  subst hk
  rw [pict_sl, elems_sl h (by simp)]
  simp [els_take]
def Val.zero : Val := ⟨0, 0⟩
theorem Val.sane_ok (v : Val) : v.sane.ok = true := by
  unfold Val.sane
  split
  · assumption
  · rfl
theorem Val.sane_of {v : Val} (h : v.ok = true) : v.sane = v := by unfold Val.sane; rw [if_pos h]
theorem Val.ok_bot {v : Val} (h : v.ok = true) (hk : v.k = 0) : v = Val.zero := by
  obtain ⟨k, c⟩ := v
  simp only at hk
  subst hk
  simp [Val.ok] at h
  simp [Val.zero, h]
def getL (l : List Val) (i : Int) : Val := if 0 ≤ i ∧ i < l.length then (l.getD i.toNat Val.zero).sane else Val.zero
def Env.get (e : Env) (i : Int) : Val := match e with
  | none => Val.zero
  | some l => getL l i
@[simp] theorem pict_opsV {S : St} {n : Nat} : pict S [] (n + 3) opsV = some opsV := by simp [opsV, pict_func]
@[simp] theorem solid_opsV : opsV.solid = true := by simp [opsV]
@[simp] theorem cells_opsV : opsV.cells = [.func (.func 150) [] [], .func (.func 95) [] []] := rfl
def ownL (l : List Val) (n : Nat) : List Val := (List.range (max n l.length)).map fun k : Nat => getL l (k : Int)
theorem ownL_len (l : List Val) (n : Nat) : (ownL l n).length = max n l.length := by simp [ownL]
def Env.own (e : Env) : Env := e.map fun l => ownL l 0
end Go.Proofs.YtchkknkjhiaooaaGreatDoor.Vm
