/- A part of the proof: Rr Rs Ta Tb Tc Sg. -/
import Derived.Test.YtchkknkjhiaooaaGreatDoorQg0
set_option linter.unusedVariables false
set_option linter.unusedSimpArgs false
set_option linter.constructorNameAsVariable false
namespace Go.Proofs.YtchkknkjhiaooaaGreatDoor.Vm
open Go Go.RowKit
variable {N : Nat} {g : Glob}
inductive Rch (G : List (List Int)) (a0 : Nat) : Nat → Prop
  | base : Rch G a0 a0
  | step {a b : Nat} {l : List Int} (h : Rch G a0 a) (hl : G[a]? = some l) (hb : (b : Int) ∈ l) : Rch G a0 b
structure Wlk (G : List (List Int)) (a0 : Nat) (T : List Nat) (met : List Bool) (way : List (Nat × Nat)) : Prop where
  m : ∀ x : Nat, met[x]? = some true ↔ x ∈ T ∨ ∃ nx, (x, nx) ∈ way
  r : ∀ x : Nat, met[x]? = some true → Rch G a0 x
  c : ∀ x ∈ T, ∀ l, G[x]? = some l → ∀ b : Nat, (b : Int) ∈ l → met[b]? = some true
  w : ∀ a nx, (a, nx) ∈ way → ∀ l, G[a]? = some l → ∀ k, k < nx → ∀ b : Nat, l[k]? = some (b : Int) → met[b]? = some true
  z : met[a0]? = some true
theorem set_true {met : List Bool} {b x : Nat} (hb : met[b]? = some false) : (met.set b true)[x]? = some true ↔ met[x]? = some true ∨ x = b := by
  have hl := (List.getElem?_eq_some_iff.1 hb).1
  by_cases h : x = b
  · subst h; simp [hl]
  · rw [List.getElem?_set_ne (Ne.symm h)]; simp [h]
theorem Wlk.start {G : List (List Int)} {a0 : Nat} (h : a0 < G.length) : Wlk G a0 [] ((List.replicate G.length false).set a0 true) [(a0, 0)] := by
  have hf : (List.replicate G.length false)[a0]? = some false := by simp [h]
  have hn : ∀ x : Nat, ¬ (List.replicate G.length false)[x]? = some true := fun x hx => by
    have := List.mem_of_getElem? hx
    rw [List.mem_replicate] at this
    cases this.2
  refine ⟨fun x => ?_, fun x hx => ?_, fun x hx => by (cases hx), fun a nx ha l hl k hk => ?_, ?_⟩
  · rw [set_true hf]; simp [hn x]
  · rw [set_true hf] at hx
    rcases hx with hx | rfl
    · exact absurd hx (hn x)
    · exact .base
  · simp at ha; omega
  · rw [set_true hf]; exact .inr rfl
theorem Wlk.push {G : List (List Int)} {a0 a nx b : Nat} {T : List Nat} {met : List Bool} {pre : List (Nat × Nat)} {l : List Int} (h : Wlk G a0 T met (pre ++ [(a, nx)])) (hl : G[a]? = some l) (hx : l[nx]? = some (b : Int)) (hb : met[b]? = some false) : Wlk G a0 T (met.set b true) (pre ++ [(a, nx)] ++ [(b, 0)]) := by
  have ha : met[a]? = some true := (h.m a).2 (.inr ⟨nx, by simp⟩)
  refine ⟨fun x => ?_, fun x hx' => ?_, fun x hx' l' hl' c hc => ?_, fun a' nx' ha' l' hl' k hk c hc => ?_, ?_⟩
  · rw [set_true hb, h.m x]
    constructor
    · rintro ((h1 | ⟨n, h1⟩) | rfl)
      · exact .inl h1
      · exact .inr ⟨n, List.mem_append_left _ h1⟩
      · exact .inr ⟨0, by simp⟩
    · rintro (h1 | ⟨n, h1⟩)
      · exact .inl (.inl h1)
      · rcases List.mem_append.1 h1 with h1 | h1
        · exact .inl (.inr ⟨n, h1⟩)
        · simp at h1; exact .inr h1.1
  · rw [set_true hb] at hx'
    rcases hx' with hx' | rfl
    · exact h.r x hx'
    · exact .step (h.r a ha) hl (List.mem_of_getElem? hx)
  · rw [set_true hb]; exact .inl (h.c x hx' l' hl' c hc)
  · rcases List.mem_append.1 ha' with h1 | h1
    · rw [set_true hb]; exact .inl (h.w a' nx' h1 l' hl' k hk c hc)
    · simp at h1; omega
  · rw [set_true hb]; exact .inl h.z
theorem Wlk.next {G : List (List Int)} {a0 a nx b : Nat} {T : List Nat} {met : List Bool} {pre : List (Nat × Nat)} {l : List Int} (h : Wlk G a0 T met (pre ++ [(a, nx)])) (hl : G[a]? = some l) (hx : l[nx]? = some (b : Int)) (hb : met[b]? = some true) : Wlk G a0 T met (pre ++ [(a, nx + 1)]) := by
  refine ⟨fun x => ?_, h.r, h.c, fun a' nx' ha' l' hl' k hk c hc => ?_, h.z⟩
  · rw [h.m x]
    constructor
    · rintro (h1 | ⟨n, h1⟩)
      · exact .inl h1
      · rcases List.mem_append.1 h1 with h1 | h1
        · exact .inr ⟨n, List.mem_append_left _ h1⟩
        · simp at h1; exact .inr ⟨nx + 1, by simp [h1.1]⟩
    · rintro (h1 | ⟨n, h1⟩)
      · exact .inl h1
      · rcases List.mem_append.1 h1 with h1 | h1
        · exact .inr ⟨n, List.mem_append_left _ h1⟩
        · simp at h1; exact .inr ⟨nx, by simp [h1.1]⟩
  · rcases List.mem_append.1 ha' with h1 | h1
    · exact h.w a' nx' (List.mem_append_left _ h1) l' hl' k hk c hc
    · simp at h1
      obtain ⟨rfl, rfl⟩ := h1
      rw [hl] at hl'; cases hl'
      by_cases hkn : k = nx
      · subst hkn
        rw [hx] at hc
        have : b = c := by simp at hc; omega
        rw [← this]; exact hb
      · exact h.w a' nx (by simp) l hl k (by omega) c hc
theorem Wlk.done {G : List (List Int)} {a0 : Nat} {T : List Nat} {met : List Bool} (h : Wlk G a0 T met []) (x : Nat) : x ∈ T ↔ Rch G a0 x := by
  have hm : ∀ y : Nat, met[y]? = some true ↔ y ∈ T := fun y => by rw [h.m y]; simp
  constructor
  · intro hx; exact h.r x ((hm x).2 hx)
  · intro hr
    induction hr with
    | base => exact (hm a0).1 h.z
    | step _ hl hb ih => exact (hm _).1 (h.c _ ih _ hl _ hb)
noncomputable def marks (n : Nat) (T : Nat → Prop) : List Bool := open Classical in (List.range n).map fun x => decide (T x)
end Go.Proofs.YtchkknkjhiaooaaGreatDoor.Vm
namespace Go.Proofs.YtchkknkjhiaooaaGreatDoor.Vm
open Go Go.RowKit
variable {N : Nat} {g : Glob}
def Blk.gout (b : Blk) : List Int := if b.on = true then b.out else []
def Blk.gvB (b : Blk) : AV := if b.on = true then b.outV else .nilsl
theorem Blk.gS (b : Blk) : FSl intc 1 b.gvB b.gout := by
  unfold Blk.gvB Blk.gout
  split
  · exact b.outS
  · exact .inr ⟨rfl, rfl⟩
def Fun.gv (f : Fun) (j : Nat) : AV := match f.blks[j]? with | some b => b.gvB | none => .nilsl
def Fun.gout (f : Fun) : List (List Int) := f.blks.map Blk.gout
def Fun.goutV (f : Fun) : AV := .fsl 1 (els (fun b : Blk => [b.gvB]) f.blks)
theorem Fun.gout_gr (f : Fun) : GrV f.goutV f.gout := by
  refine .inr ⟨f.blks.map Blk.gvB, by simp [Fun.goutV, els], by simp [Fun.gout], fun k w l hw hl => ?_⟩
  unfold Fun.gout at hl
  rw [List.getElem?_map] at hw hl
  cases hb : f.blks[k]? with
  | none => rw [hb] at hw; cases hw
  | some b => rw [hb] at hw hl; cases hw; cases hl; exact b.gS
end Go.Proofs.YtchkknkjhiaooaaGreatDoor.Vm
namespace Go.Proofs.YtchkknkjhiaooaaGreatDoor.Vm
open Go Go.RowKit
variable {N : Nat} {g : Glob}
def aw (w : AV) : List AV := [w]
theorem Has.one1 {α : Type} {e : α → List AV} {sz : Nat} {S : St} {v : AV} {l : List α} (h : Has e sz S v l) : v.one = true := by
  rcases h with ⟨rfl, _⟩ | ⟨o, rfl, _⟩ <;> rfl
theorem Has.newsI {S : St} {w : AV} {l : List Int} (h : Has intc 1 S w l) : Has intc 1 S.news w l := by
  rcases h with h | ⟨o, rfl, ho, hne⟩
  · exact .inl h
  · exact .inr ⟨o, rfl, ints_news ho, hne⟩
def rcl (l : List Int) (k : Nat) : List Int := ((List.range k).filter fun j : Nat => decide ((j : Int) ∈ l)).map fun j : Nat => (j : Int)
theorem rcl_succ (l : List Int) (k : Nat) : rcl l (k + 1) = rcl l k ++ if (k : Int) ∈ l then [(k : Int)] else [] := by
  unfold rcl
  rw [List.range_succ, List.filter_append, List.map_append]
  congr 1
  by_cases h : (k : Int) ∈ l <;> simp [h]
theorem rcl_len (l : List Int) (k : Nat) : (rcl l k).length ≤ k := by
  unfold rcl
  have := List.length_filter_le (fun j : Nat => decide ((j : Int) ∈ l)) (List.range k)
  simpa using this
theorem rcl_mem {l : List Int} {k : Nat} {x : Int} : x ∈ rcl l k ↔ x ∈ l ∧ 0 ≤ x ∧ x < k := by
  unfold rcl
  simp only [List.mem_map, List.mem_filter, List.mem_range, decide_eq_true_eq]
  constructor
  · rintro ⟨j, ⟨h1, h2⟩, rfl⟩; exact ⟨h2, by omega, by omega⟩
  · rintro ⟨h1, h2, h3⟩
    obtain ⟨n, rfl⟩ : ∃ n : Nat, x = (n : Int) := ⟨x.toNat, by omega⟩
    exact ⟨n, ⟨by omega, h1⟩, rfl⟩
def rclean (G : List (List Int)) : List (List Int) := G.map fun l => rcl l G.length
theorem prc_gr (L : List (List Int)) : GrV (.fsl 1 (els prc L)) L := by
  refine .inr ⟨L.map (encF intc 1), by simp [els, prc], by simp, fun k w m hw hm => ?_⟩
  rw [List.getElem?_map, hm] at hw
  cases hw
  exact encF_sl
theorem ref10_Clean {v : AV} {G : List (List Int)} (hv : GrV v G) (h0 : 0 < G.length) (hG : G.length ≤ 64) (hl : ∀ l ∈ G, l.length < 1048576) : Ret P g true 106 [v] (.fsl 1 (els prc (rclean G))) := by
  refine Ret.inP c106 (by simp) ?_
  simp [k106]
  refine W.whileI (fun (k : Nat) F S => k ≤ G.length ∧ F 0 = v ∧ F 4 = .int .i64 k ∧ ∃ ws, Has aw 1 S (F 3) ws ∧ Bel S (F 3) ∧ ws.length = k ∧ ∀ (j : Nat) (w : AV) (l : List Int), ws[j]? = some w → G[j]? = some l → Has intc 1 S w (rcl l G.length) ∧ Bel S w) (fun k => G.length - k) ?_ 0 _ _ ?_
  · rintro k F S ⟨hk, f0, f4, ws, h3, b3, hwl, hws⟩
    simp [f0, f4, hv.len]
    by_cases hlt : k < G.length
    · obtain ⟨l, hx⟩ : ∃ l, G[k]? = some l := ⟨_, List.getElem?_eq_getElem hlt⟩
      obtain ⟨w, hw, hix⟩ := hv.idx hx
      have hll := hl l (List.mem_of_getElem? hx)
      have e4 := wrapS k (by omega)
      simp [hlt]
      refine W.whileI (fun (j : Nat) F' S' => j ≤ G.length ∧ F' 0 = v ∧ F' 4 = .int .i64 k ∧ F' 3 = F 3 ∧ F' 6 = .int .i64 j ∧ Has intc 1 S' (F' 5) (rcl l j) ∧ Bel S' (F' 5) ∧ (∀ q c, F' 5 = .sl 1 q 0 c → S.next ≤ q) ∧ S.next ≤ S'.next ∧ ∀ q, q < S.next → S'.obj q = S.obj q) (fun j => G.length - j) ?_ 0 _ _ ?_
      · rintro j F' S' ⟨hj, f0, f4, f3, f6, h5, b5, y5, hn, hu⟩
        simp [f0, f6, hv.len]
        by_cases hltj : j < G.length
        · have e5 := wrapS j (by omega)
          have hst := rcl_succ l j
          have hrl := rcl_len l j
          simp [hltj, f0, f4, f6, hix]
          refine (ref10_Has l j w hw (by omega)).use (n := 9) (by simp [mapOpt, pict_stab hw.stab]) rfl ?_
          by_cases hm : (j : Int) ∈ l
          · simp [hm, f6] at hst ⊢
            refine appV_own (e := intc) (x := (j : Int)) (h5.new b5) rfl (by simp [room]; omega) ?_
            intro S2 hS hnx hoth
            simp at hnx hoth
            simp [f0, f3, f4, f6, e5]
            refine ⟨j + 1, by omega, by omega, by omega, by rw [hst]; simpa using hS, Bel.sl (by rw [hnx]; exact Nat.lt_succ_self _), by omega, by omega, fun q hq => ?_⟩
            rw [hoth q (by omega) (fun c e => by have := y5 q _ e; omega), if_neg (by omega)]
            exact hu q hq
          · simp [hm] at hst ⊢
            simp [f0, f3, f4, f6, e5]
            exact ⟨j + 1, by omega, by omega, by omega, by rw [hst]; exact h5, b5, y5, hn, hu⟩
        · have : j = G.length := by omega
          subst this
          have h51 := h5.one1
          have h3' : Has aw 1 S' (F 3) ws := h3.keep fun q ⟨c, hc⟩ => hu q (b3 _ _ _ hc)
          have b3' : Bel S' (F 3) := b3.mono hn
          simp [f3, one_cells h51]
          refine appV_own (e := aw) (x := F' 5) (h3'.new b3') (by simp [okEl, aw, h51]) (by simp [room]; omega) ?_
          intro S2 hS hnx hoth
          simp at hnx hoth
          simp [f0, f4, e4]
          have keep : ∀ w l, Has intc 1 S' w l → Bel S' w → (∀ q c, w = .sl 1 q 0 c → ∀ c', F 3 ≠ .sl 1 q 0 c') → Has intc 1 S2 w l ∧ Bel S2 w := fun w l h b hne => by
            refine ⟨h.keep fun q ⟨c, hc⟩ => ?_, b.mono (by omega)⟩
            have := b _ _ _ hc
            rw [hoth q (by omega) (fun c' e => hne q c hc c' e), if_neg (by omega)]
          refine ⟨k + 1, by omega, by omega, by omega, ws ++ [F' 5], by simpa [hwl] using hS, Bel.sl (by rw [hnx]; exact Nat.lt_succ_self _), by simp [hwl], fun j w l' hw' hl' => ?_⟩
          by_cases hjk : j = k
          · subst hjk
            rw [hx] at hl'; cases hl'
            rw [List.getElem?_append_right (by omega), hwl] at hw'
            simp at hw'
            subst hw'
            refine keep _ _ h5 b5 fun q c e c' e' => ?_
            have h1 := y5 q c e
            have h2 := b3 _ _ _ e'
            omega
          · have hjl : j < ws.length := by
              have := (List.getElem?_eq_some_iff.1 hw').1
              simp at this; omega
            rw [List.getElem?_append_left hjl] at hw'
            obtain ⟨a1, a2⟩ := hws j w l' hw' hl'
            refine keep _ _ (a1.keep fun q ⟨c, hc⟩ => hu q (a2 _ _ _ hc)) (a2.mono hn) fun q c e c' e' => ?_
            subst e
            rcases a1 with ⟨e1, _⟩ | ⟨o, e1, ho, hne⟩
            · cases e1
            · cases e1
              rcases h3 with ⟨e2, _⟩ | ⟨o2, e2, ho2, hne2⟩
              · rw [e2] at e'; cases e'
              · rw [e2] at e'; cases e'
                rw [ho] at ho2
                cases hr : rcl l' G.length with
                | nil => exact hne hr
                | cons z zs =>
                  cases hz : ws with
                  | nil => exact hne2 hz
                  | cons u us =>
                    rw [hr, hz] at ho2
                    simp [els, intc, aw] at ho2
                    have hu' := hws 0 u
                    rw [hz] at hu'
                    obtain ⟨l0, hl0⟩ : ∃ l0, G[0]? = some l0 := ⟨_, List.getElem?_eq_getElem h0⟩
                    have := (hu' l0 rfl hl0).1.one1
                    rcases (hu' l0 rfl hl0).1 with ⟨e3, _⟩ | ⟨o3, e3, _⟩ <;> rw [e3] at ho2 <;> simp at ho2
      · simp [f0, f4]
        exact ⟨.inl ⟨rfl, by simp [rcl]⟩, Bel.nil⟩
    · have : k = G.length := by omega
      subst this
      simp
      rcases h3 with ⟨_, e⟩ | ⟨o, e, ho, hne⟩
      · rw [e] at hwl; simp at hwl; omega
      · have hyo : (AObj.row 1 (els aw ws)).young = true := by
          show youngss _ = true
          rw [youngss_iff]
          intro x hx
          rw [List.mem_flatten] at hx
          obtain ⟨z, hz, hx⟩ := hx
          unfold els at hz
          obtain ⟨w, hw, rfl⟩ := List.mem_map.1 hz
          have : x = w := by simpa [aw] using hx
          subst this
          obtain ⟨j, hj⟩ := List.mem_iff_getElem?.1 hw
          have hjl := (List.getElem?_eq_some_iff.1 hj).1
          obtain ⟨l, hl'⟩ : ∃ l, G[j]? = some l := ⟨_, List.getElem?_eq_getElem (by omega)⟩
          rcases (hws j x l hj hl').1 with ⟨h, _⟩ | ⟨q, h, _⟩ <;> rw [h] <;> rfl
        rw [e, hwl]
        refine ⟨rfl, 9, pict_row (m := 8) (es := els aw ws) (by rw [news_obj, ho]; simp [Option.filter, hyo]) (by simp [hwl]) (by simp [rclean]) fun j z hz => ?_⟩
        simp only [els, List.getElem?_map] at hz ⊢
        cases hw : ws[j]? with
        | none => rw [hw] at hz; cases hz
        | some w =>
          rw [hw] at hz; cases hz
          have hjl := (List.getElem?_eq_some_iff.1 hw).1
          obtain ⟨l, hl'⟩ : ∃ l, G[j]? = some l := ⟨_, List.getElem?_eq_getElem (by omega)⟩
          simp [rclean, hl', aw, mapOpt, prc, (hws j w l hw hl').1.newsI.pict (n := 6)]
  · simp
    exact ⟨[], .inl ⟨rfl, rfl⟩, Bel.nil, rfl, fun j w l h => by cases h⟩
theorem ref10_Of (f : Fun) (h0 : 0 < f.blks.length) (hf : f.blks.length ≤ 64) (ho : ∀ b ∈ f.blks, b.out.length < 1048576) : Ret P g false 58 [encFun f] (.fsl 1 (els prc (rclean f.gout))) := by
  refine Ret.in c58 (by simp) ?_
  simp [k58]
  refine W.whileI (fun (k : Nat) F S => k ≤ f.blks.length ∧ F 1 = .ptr 0 0 0 ∧ F 4 = .int .i64 k ∧ S.obj 0 = some (.row 3 [func f]) ∧ 0 < S.next ∧ Has aw 1 S (F 3) ((f.blks.map Blk.gvB).take k) ∧ Bel S (F 3) ∧ ∀ q c, F 3 = .sl 1 q 0 c → 0 < q) (fun k => f.blks.length - k) ?_ 0 _ _ ?_
  · rintro k F S ⟨hk, f1, f4, s0, hn, h3, b3, n3⟩
    have s0' := s0
    simp only [func] at s0'
    simp [f1, f4, s0', f.blksS.len]
    by_cases hlt : k < f.blks.length
    · obtain ⟨b, hb⟩ : ∃ b, f.blks[k]? = some b := ⟨_, List.getElem?_eq_getElem hlt⟩
      have e4 := wrapS k (by omega)
      have hst : (f.blks.map Blk.gvB).take (k + 1) = (f.blks.map Blk.gvB).take k ++ [b.gvB] := take_succ_get (by rw [List.getElem?_map, hb]; rfl)
      simp [hlt, f1, f4, s0', f.blksS.idx hb]
      have h1 : b.gvB.one = true := by
        rcases b.gS with h | ⟨h, _⟩ <;> rw [h] <;> rfl
      cases hon : b.on
      · have hg : b.gvB = .nilsl := by unfold Blk.gvB; rw [hon]; rfl
        rw [hg] at hst h1
        simp
        refine appV_own (e := aw) (x := AV.nilsl) (h3.new b3) (by simp [okEl, aw, h1]) (by simp [room]; omega) ?_
        intro S2 hS hnx hoth
        simp at hnx hoth
        simp [f1, f4, e4]
        refine ⟨k + 1, by omega, by omega, by omega, ?_, by omega, by rw [hst]; simpa using hS, Bel.sl (by rw [hnx]; exact Nat.lt_succ_self _)⟩
        rw [hoth 0 (by omega) (fun c e => by have := n3 0 _ e; omega), if_neg (by omega)]
        exact s0
      · have hg : b.gvB = b.outV := by unfold Blk.gvB; rw [hon]; rfl
        rw [hg] at hst h1
        simp [f1, f4, s0', f.blksS.idx hb, b.outS.cells]
        refine appV_own (e := aw) (x := b.outV) (h3.new b3) (by simp [okEl, aw, h1]) (by simp [room]; omega) ?_
        intro S2 hS hnx hoth
        simp at hnx hoth
        simp [f1, f4, e4]
        refine ⟨k + 1, by omega, by omega, by omega, ?_, by omega, by rw [hst]; simpa using hS, Bel.sl (by rw [hnx]; exact Nat.lt_succ_self _)⟩
        rw [hoth 0 (by omega) (fun c e => by have := n3 0 _ e; omega), if_neg (by omega)]
        exact s0
    · have : k = f.blks.length := by omega
      subst this
      rw [List.take_of_length_le (by simp)] at h3
      simp
      have hpict : pict S [] 9 (F 3) = some f.goutV := by
        rcases h3 with ⟨_, e⟩ | ⟨o, e, ho, hne⟩
        · simp at e; rw [e] at h0; simp at h0
        · rw [e]
          refine pict_row (m := 8) ho (by simp) (by simp) fun j z hz => ?_
          simp only [els, List.getElem?_map] at hz ⊢
          cases hb : f.blks[j]? with
          | none => rw [hb] at hz; cases hz
          | some b =>
            rw [hb] at hz; cases hz
            have hs : b.gvB.stab = true := b.gS.stab
            simp [aw, mapOpt, pict_stab hs]
      refine (ref10_Clean f.gout_gr (by simp [Fun.gout]; omega) (by simp [Fun.gout]; omega) (fun l hl => ?_)).use (n := 9) (by simp [mapOpt, hpict]) rfl ?_
      · unfold Fun.gout at hl
        obtain ⟨b, hb, rfl⟩ := List.mem_map.1 hl
        have := ho b hb
        unfold Blk.gout
        split
        · omega
        · simp
      simp
      exact RK.stab rfl
  · simp
    exact ⟨.inl ⟨rfl, rfl⟩, Bel.nil⟩
end Go.Proofs.YtchkknkjhiaooaaGreatDoor.Vm
namespace Go.Proofs.YtchkknkjhiaooaaGreatDoor.Vm
open Go Go.RowKit
variable {N : Nat} {g : Glob}
def Shut (C : List (List Int)) (r : List Bool) : Prop := ∀ (a : Nat) (l : List Int), C[a]? = some l → r[a]? = some true → ∀ b : Nat, (b : Int) ∈ l → r[b]? = some true
def leB (r r' : List Bool) : Prop := ∀ x : Nat, r[x]? = some true → r'[x]? = some true
theorem cnt_lt : ∀ {r r' : List Bool}, r.length = r'.length → leB r r' → r.count true ≤ r'.count true ∧ (r ≠ r' → r.count true < r'.count true)
  | [], [], _, _ => ⟨Nat.le_refl _, fun h => absurd rfl h⟩
  | [], _ :: _, h, _ => by simp at h
  | _ :: _, [], h, _ => by simp at h
  | a :: r, b :: r', h, hle => by
    have ih := cnt_lt (r := r) (r' := r') (by simpa using h) fun x hx => by simpa using hle (x + 1) (by simpa using hx)
    have h0 := hle 0
    simp at h0
    cases a <;> cases b
    · simp only [List.count_cons]
      refine ⟨by simpa using ih.1, fun hne => ?_⟩
      have := ih.2 fun e => hne (by rw [e])
      simpa using this
    · simp only [List.count_cons]
      refine ⟨by have := ih.1; simp; omega, fun _ => by have := ih.1; simp; omega⟩
    · simp at h0
    · simp only [List.count_cons]
      refine ⟨by simpa using ih.1, fun hne => ?_⟩
      have := ih.2 fun e => hne (by rw [e])
      simpa using this
structure RdI (C : List (List Int)) (a0 k : Nat) (r : List Bool) : Prop where
  len : r.length = C.length
  z : r[a0]? = some true
  up : Shut C r ∨ k + 1 ≤ r.count true
structure RnG (C : List (List Int)) (r0 : List Bool) (a : Nat) (r : List Bool) : Prop where
  len : r.length = r0.length
  le : leB r0 r
  st : Shut C r0 → r = r0
  all : ∀ (a' : Nat) (l : List Int), a' < a → C[a']? = some l → r0[a']? = some true → ∀ b : Nat, (b : Int) ∈ l → r[b]? = some true
theorem RnG.start {C : List (List Int)} (r0 : List Bool) : RnG C r0 0 r0 := ⟨rfl, fun _ h => h, fun _ => rfl, fun a' l h => absurd h (by omega)⟩
theorem RnG.done {C : List (List Int)} {r0 r : List Bool} {a0 k : Nat} (h : RnG C r0 C.length r) (h0 : RdI C a0 k r0) : RdI C a0 (k + 1) r := by
  refine ⟨by rw [h.len, h0.len], h.le _ h0.z, ?_⟩
  by_cases hs : Shut C r0
  · rw [h.st hs]; exact .inl hs
  · have hne : r0 ≠ r := fun e => hs fun a l hl ha b hb => by
      have := h.all a l (List.getElem?_eq_some_iff.1 hl).1 hl ha b hb
      rw [e]; exact this
    have h1 := (cnt_lt h.len.symm h.le).2 hne
    rcases h0.up with h2 | h2
    · exact absurd h2 hs
    · exact .inr (by omega)
theorem RdI.all {C : List (List Int)} {a0 : Nat} {r : List Bool} (h : RdI C a0 C.length r) {x : Nat} (hx : Rch C a0 x) : r[x]? = some true := by
  have hs : Shut C r := by
    rcases h.up with h1 | h1
    · exact h1
    · have := List.count_le_length (a := true) (l := r)
      rw [h.len] at this
      omega
  induction hx with
  | base => exact h.z
  | step _ hl hb ih => exact hs _ _ hl ih _ hb
structure RkG (C : List (List Int)) (r0 : List Bool) (a : Nat) (l : List Int) (k : Nat) (r : List Bool) : Prop where
  n : RnG C r0 a r
  p : ∀ k', k' < k → ∀ b : Nat, l[k']? = some (b : Int) → r[b]? = some true
theorem RkG.start {C : List (List Int)} {r0 r : List Bool} {a : Nat} {l : List Int} (h : RnG C r0 a r) : RkG C r0 a l 0 r := ⟨h, fun k' hk => absurd hk (by omega)⟩
theorem RkG.step {C : List (List Int)} {r0 r : List Bool} {a k b : Nat} {l : List Int} (h : RkG C r0 a l k r) (hl : C[a]? = some l) (hk : l[k]? = some (b : Int)) (ha : r[a]? = some true) (hb : b < r.length) : RkG C r0 a l (k + 1) (r.set b true) := by
  have hle : leB r (r.set b true) := fun x hx => by
    by_cases e : x = b
    · subst e; rw [List.getElem?_set_self hb]
    · rw [List.getElem?_set_ne (Ne.symm e)]; exact hx
  refine ⟨⟨by rw [List.length_set]; exact h.n.len, fun x hx => hle x (h.n.le x hx), fun hs => ?_, fun a' l' h1 h2 h3 c hc => hle _ (h.n.all a' l' h1 h2 h3 c hc)⟩, fun k' hk' c hc => ?_⟩
  · have e := h.n.st hs
    subst e
    have := hs a l hl ha b (List.mem_of_getElem? hk)
    obtain ⟨h1, h2⟩ := List.getElem?_eq_some_iff.1 this
    rw [← h2]; exact List.set_getElem_self h1
  · by_cases e : k' = k
    · subst e
      rw [hk] at hc
      have : b = c := by simp at hc; omega
      subst this
      rw [List.getElem?_set_self hb]
    · exact hle _ (h.p k' (by omega) c hc)
theorem RkG.done {C : List (List Int)} {r0 r : List Bool} {a k : Nat} {l : List Int} (h : RkG C r0 a l k r) (hl : C[a]? = some l) (hd : k = l.length ∨ r[a]? = some false) : RnG C r0 (a + 1) r := by
  refine ⟨h.n.len, h.n.le, h.n.st, fun a' l' h1 h2 h3 b hb => ?_⟩
  by_cases e : a' = a
  · subst e
    rw [hl] at h2; cases h2
    rcases hd with hd | hd
    · obtain ⟨k', hk'⟩ := List.mem_iff_getElem?.1 hb
      have := (List.getElem?_eq_some_iff.1 hk').1
      exact h.p k' (by omega) b hk'
    · have := h.n.le _ h3
      rw [hd] at this; cases this
  · exact h.n.all a' l' (by omega) h2 h3 b hb
theorem ref10_is {v : AV} {n : Nat} (hv : lenV v = some n) (hs : v.stab = true) (x : Int) : Ret P g false 107 [v, .int .i64 x] (.bool (inGr n x)) := by
  refine Ret.in c107 (by simp) ?_
  simp [k107, inGr]
  by_cases hx : (0 : Int) ≤ x
  · simp [hx, hv]
    exact RK.stab rfl
  · simp [hx]
    exact RK.stab rfl
theorem ref10_Reach {v : AV} {G : List (List Int)} (hv : GrV v G) (hG : G.length ≤ 64) (hl : ∀ l ∈ G, l.length < 1048576) (a0 : Nat) (ha0 : a0 < G.length) : RetE P g false 59 [v, .int .i64 (a0 : Int)]
    (fun y => ∃ r : List Bool, y = .fsl 1 (els boolc r) ∧ r.length = G.length ∧ ∀ x, Rch (rclean G) a0 x → r[x]? = some true) := by
  refine RetE.in c59 (by simp) ?_
  have hroom : G.length ≤ room := by simp [room]; omega
  simp [k59, hv.len, hroom]
  refine (ref10_is hv.len hv.stab (a0 : Int)).use (n := 9) (by simp [mapOpt, pict_stab hv.stab]) rfl ?_
  have e1 : inGr G.length (a0 : Int) = true := by simp [inGr, ha0]
  have hg : (List.replicate G.length [AV.bool false])[a0]? = some [AV.bool false] := by simp [ha0]
  simp [e1, ix_sl ha0, hg]
  refine (ref10_Clean hv (by omega) hG hl).use (n := 9) (by simp [mapOpt, pict_stab hv.stab]) rfl ?_
  have hCl : (rclean G).length = G.length := by simp [rclean]
  have hCm : ∀ l ∈ rclean G, l.length ≤ 64 ∧ ∀ x ∈ l, 0 ≤ x ∧ x < (G.length : Int) := fun l h => by
    unfold rclean at h
    obtain ⟨m, _, rfl⟩ := List.mem_map.1 h
    have := rcl_len m G.length
    exact ⟨by omega, fun x hx => (rcl_mem.1 hx).2⟩
  have hcv := prc_gr (rclean G)
  generalize rclean G = C at *
  generalize AV.fsl 1 (els prc C) = cv at *
  simp
  refine W.whileI (fun (k : Nat) F S => k ≤ C.length ∧ F 0 = v ∧ F 5 = .sl 1 0 0 G.length ∧ F 6 = cv ∧ F 7 = .int .i64 k ∧ ∃ r, S.obj 0 = some (.row 1 (els boolc r)) ∧ RdI C a0 k r) (fun k => C.length - k) ?_ 0 _ _ ?_
  · rintro k F S ⟨hk, f0, f5, f6, f7, r0, s0, hI⟩
    simp [f0, f7, hv.len]
    by_cases hlt : k < G.length
    · have e4 := wrapS k (by omega)
      simp [hlt]
      refine W.whileI (fun (a : Nat) F S => a ≤ C.length ∧ F 0 = v ∧ F 5 = .sl 1 0 0 G.length ∧ F 6 = cv ∧ F 7 = .int .i64 k ∧ F 8 = .int .i64 a ∧ ∃ r, S.obj 0 = some (.row 1 (els boolc r)) ∧ RnG C r0 a r) (fun a => C.length - a) ?_ 0 _ _ ?_
      · clear f0 f5 f6 f7 s0
        rintro a F S ⟨ha, f0, f5, f6, f7, f8, r, s0, hN⟩
        simp [f0, f8, hv.len]
        by_cases hlta : a < G.length
        · have e5 := wrapS a (by omega)
          obtain ⟨l, hx⟩ : ∃ l, C[a]? = some l := ⟨_, List.getElem?_eq_getElem (by omega)⟩
          obtain ⟨w, hw, hix⟩ := hcv.idx hx
          have hlm := hCm l (List.mem_of_getElem? hx)
          simp [hlta]
          refine W.whileI (fun (q : Nat) F S => q ≤ l.length ∧ F 0 = v ∧ F 5 = .sl 1 0 0 G.length ∧ F 6 = cv ∧ F 7 = .int .i64 k ∧ F 8 = .int .i64 a ∧ F 9 = .int .i64 q ∧ ∃ r, S.obj 0 = some (.row 1 (els boolc r)) ∧ RkG C r0 a l q r) (fun q => l.length - q) ?_ 0 _ _ ?_
          · clear f0 f5 f6 f7 f8 s0 hN
            rintro q F S ⟨hq, f0, f5, f6, f7, f8, f9, r, s0, hK⟩
            have hrl : r.length = G.length := by rw [hK.n.len, hI.len, hCl]
            obtain ⟨mb, hmb⟩ : ∃ y, r[a]? = some y := ⟨_, List.getElem?_eq_getElem (by omega)⟩
            by_cases hltq : q < l.length
            · obtain ⟨x, hxq⟩ : ∃ x, l[q]? = some x := ⟨_, List.getElem?_eq_getElem hltq⟩
              have hxx := hlm.2 x (List.mem_of_getElem? hxq)
              obtain ⟨b, rfl⟩ : ∃ b : Nat, x = (b : Int) := ⟨x.toNat, by omega⟩
              have hbn : b < G.length := by omega
              obtain ⟨mc, hmc⟩ : ∃ y, r[b]? = some y := ⟨_, List.getElem?_eq_getElem (by omega)⟩
              have e6 := wrapS q (by omega)
              simp [f5, f6, f8, f9, hix, hw.len, hltq, ix_sl hlta, s0, hmb, boolc]
              cases mb
              · simp [f0, f5, f6, f7, f8, e5]
                exact ⟨a + 1, by omega, by omega, by omega, r, by simpa using s0, hK.done hx (.inr hmb)⟩
              · simp [f5, f6, f8, f9, hix, hw.idx hxq, intc, ix_sl hbn, s0, hmc, boolc]
                simp [f0, f5, f6, f7, f8, f9, e6]
                refine ⟨q + 1, by omega, by omega, by omega, r.set b true, ?_, hK.step hx hxq hmb (by omega)⟩
                rw [← els_set]; rfl
            · have : q = l.length := by omega
              subst this
              simp [f6, f8, f9, hix, hw.len]
              simp [f0, f5, f6, f7, f8, e5]
              exact ⟨a + 1, by omega, by omega, by omega, r, by simpa using s0, hK.done hx (.inl rfl)⟩
          · simp [f0, f5, f6, f7, f8]
            exact ⟨r, s0, RkG.start hN⟩
        · have : a = C.length := by omega
          subst this
          simp [hCl, f0, f5, f6, f7, e4]
          exact ⟨k + 1, by omega, by omega, by omega, r, s0, hN.done hI⟩
      · simp [f0, f5, f6, f7]
        exact ⟨r0, s0, RnG.start r0⟩
    · have : k = C.length := by omega
      subst this
      simp [hCl, f5]
      refine ⟨_, ⟨r0, rfl, by rw [hI.len, hCl], fun x hx => hI.all hx⟩, 9, pict_rowP (n := 7) s0 (by rw [hI.len, hCl])⟩
  · simp
    refine ⟨(List.replicate G.length false).set a0 true, ?_, by simp [hCl], by simp [ha0], .inr ?_⟩
    · show (List.replicate G.length (boolc false)).set a0 (boolc true) = _
      rw [els_replicate, els_set]
    · have h1 : ((List.replicate G.length false).set a0 true)[a0]? = some true := by simp [ha0]
      have := List.count_pos_iff.2 (List.mem_of_getElem? h1)
      omega
end Go.Proofs.YtchkknkjhiaooaaGreatDoor.Vm
namespace Go.Proofs.YtchkknkjhiaooaaGreatDoor.Vm
open Go Go.RowKit
variable {N : Nat} {g : Glob}
theorem ones_zero : Ret P g false 167 [.int .u64 0] (.int .i64 0) := by
  refine Ret.in c167 (by simp) ?_
  have s0 : ∀ k : Nat, k < 64 → ishift .shr .u64 0 (k : Int) = some (.int .u64 0) := fun k hk => by
    have := u64shift 0 k (by omega) hk
    simpa using this
  have a0 : ∀ c : Int, iand .u64 0 c = 0 := fun c => by
    unfold iand
    simp
    rfl
  have w0 : IntKind.u64.wrap 0 = 0 := rfl
  simp [k167, s0 1 (by omega), s0 2 (by omega), s0 4 (by omega), s0 8 (by omega), s0 16 (by omega), s0 32 (by omega), a0, w0]
  exact RK.stab rfl
theorem count_zero (n : Nat) (hn : n ≤ 1024) : Ret P g false 108 [encB (BSet.new n)] (.int .i64 0) := by
  refine Ret.in c108 (by simp) ?_
  have hz : ∀ k, k < nw n → (BSet.new n).ws[k]? = some 0 := fun k hk => by simp [BSet.new, hk]
  have hl : (BSet.new n).ws.length = nw n := by simp [BSet.new]
  have hnw := nw_le hn
  have ho := BSet.new_ok hn
  generalize BSet.new n = s at *
  simp [k108]
  refine (bits_sane s ho).use (n := 9) (by simp [mapOpt]) rfl ?_
  simp [hl]
  refine W.whileI (fun (k : Nat) F S => k ≤ nw n ∧ F 3 = .int .i64 0 ∧ F 8 = .fsl 1 (els u64c s.ws) ∧ F 9 = .int .i64 (nw n) ∧ F 10 = .int .i64 k) (fun k => nw n - k) ?_ 0 _ _ ?_
  · rintro k F S ⟨hk, f3, f8, f9, f10⟩
    simp [f9, f10]
    by_cases hlt : k < nw n
    · have e4 := wrapS k (by omega)
      have hfs : FSl u64c 1 (.fsl 1 (els u64c s.ws)) s.ws := .inl rfl
      have w0 : IntKind.i64.wrap 0 = 0 := rfl
      simp [hlt, f3, f8, f10, hfs.idx (hz k hlt), u64c]
      refine (ones_zero).use (n := 9) (by rfl) rfl ?_
      simp [f3, f8, f9, f10, e4, w0]
      exact ⟨k + 1, by omega, by omega, by omega⟩
    · have : k = nw n := by omega
      subst this
      simp [f3]
      exact RK.stab rfl
  · simp
theorem bits_Leq {a b : BSet} (ha : a.OK) (hb : b.OK) (h : ∀ j, a.mem j = true → b.mem j = true) : Ret P g false 60 [encB a, encB b] (.bool true) := by
  refine Ret.in c60 (by simp) ?_
  simp [k60]
  refine (minus_ret ha hb).use (n := 9) (by simp [mapOpt]) rfl ?_
  have hm : max a.n b.n ≤ 1024 := by have := ha.n; have := hb.n; omega
  have he : a.minus b = BSet.new (max a.n b.n) := BSet.ext (BSet.minus_ok ha hb) (BSet.new_ok hm) rfl fun j _ => by
    rw [BSet.minus_mem ha hb, BSet.new_mem]
    cases ha' : a.mem j
    · rfl
    · rw [h j ha']; rfl
  rw [he]
  simp
  refine (count_zero _ hm).use (n := 9) (by simp [mapOpt]) rfl ?_
  simp
  exact RK.stab rfl
theorem of_ret {l : List Int} {v : AV} (hv : FSl intc 1 v l) (hl : l.length < 2 ^ 40) : Ret P g true 24 [.int .i64 6, v] (encB (BSet.ofL 6 l)) :=
  (bits_Of 6 l v hv (by omega) hl).setR (b := BSet.ofL 6 l) (BSet.ofL_n _ _) (by rw [(BSet.ofL_ok (by omega) l).len, BSet.ofL_n])
theorem Rch.head {G : List (List Int)} {a b c : Nat} {l : List Int} (hl : G[a]? = some l) (hb : (b : Int) ∈ l) (h : Rch G b c) : Rch G a c := by
  induction h with
  | base => exact .step .base hl hb
  | step _ h1 h2 ih => exact .step ih h1 h2
theorem rcl_edge {f : Fun} {a b : Nat} {x : Blk} (hx : f.blks[a]? = some x) (hon : x.on = true) (hb : (b : Int) ∈ x.out) (hbl : b < f.blks.length) : ∃ l, (rclean (rclean f.gout))[a]? = some l ∧ (b : Int) ∈ l := by
  have h1 : f.gout[a]? = some x.gout := by unfold Fun.gout; rw [List.getElem?_map, hx]; rfl
  have h2 : (rclean f.gout)[a]? = some (rcl x.gout f.gout.length) := by unfold rclean; rw [List.getElem?_map, h1]; rfl
  have hg : f.gout.length = f.blks.length := by simp [Fun.gout]
  have hc : (rclean f.gout).length = f.blks.length := by simp [rclean, hg]
  have h3 : (rclean (rclean f.gout))[a]? = some (rcl (rcl x.gout f.gout.length) (rclean f.gout).length) := by
    generalize rclean f.gout = C at h2 ⊢
    unfold rclean; rw [List.getElem?_map, h2]; rfl
  refine ⟨_, h3, rcl_mem.2 ⟨rcl_mem.2 ⟨?_, by omega, by omega⟩, by omega, by omega⟩⟩
  unfold Blk.gout; rw [if_pos hon]; exact hb
theorem gen_uses (l : List Ins) {v : Nat} (hv : v < 6) : (l.foldr Ins.live (BSet.new 6)).mem v = true → ∃ x ∈ l, (v : Int) ∈ x.uses := by
  induction l with
  | nil => intro h; rw [List.foldr_nil, BSet.new_mem] at h; cases h
  | cons x l ih =>
    intro h
    have o2 := foldr_live_ok l (BSet.new_ok (n := 6) (by omega))
    rw [List.foldr_cons, live_mem x o2.1 (o2.2.trans rfl) hv] at h
    by_cases hu : (v : Int) ∈ x.uses
    · exact ⟨x, by simp, hu⟩
    · simp [hu] at h
      obtain ⟨y, hy, hyu⟩ := ih h.1
      exact ⟨y, by simp [hy], hyu⟩
theorem lv_read {p : Prg} {f : Fun} (hok : FunOK p f) {b v : Nat} (h : Lv f.blks b v) : ∃ c y x, Rch (rclean (rclean f.gout)) b c ∧ f.blks[c]? = some y ∧ x ∈ y.ins ∧ (v : Int) ∈ x.uses := by
  have hv6 := h.lt
  induction h with
  | gen i B v hb hv =>
    obtain ⟨x, h1, h2⟩ := gen_uses B.ins hv6 hv
    exact ⟨i, B, x, .base, hb, h1, h2⟩
  | step i B v j hb hj h hk ih =>
    obtain ⟨c, y, x, h1, h2⟩ := ih hv6
    have hon : B.on = true := by
      cases hon : B.on
      · have := ((hok.blk (List.mem_of_getElem? hb)).1 hon).2
        rw [this] at hj; cases hj
      · rfl
    obtain ⟨hj0, hjl⟩ := (hok.out B (List.mem_of_getElem? hb)).2 j hj
    obtain ⟨l, h3, h4⟩ := rcl_edge (b := j.toNat) hb hon (by rw [Int.toNat_of_nonneg hj0]; exact hj) (by omega)
    exact ⟨c, y, x, h1.head h3 h4, h2⟩
structure RdS (f : Fun) (r : List Bool) (c : Nat) (R : BSet) : Prop where
  ok : R.OK
  n : R.n = 6
  has : ∀ (c' : Nat) (y : Blk) (x : Ins) (v : Nat), c' < c → r[c']? = some true → f.blks[c']? = some y → x ∈ y.ins → v < 6 → (v : Int) ∈ x.uses → R.mem v = true
structure RdK (f : Fun) (r : List Bool) (c : Nat) (B : Blk) (k : Nat) (R : BSet) : Prop where
  s : RdS f r c R
  p : ∀ (k' : Nat) (x : Ins) (v : Nat), k' < k → B.ins[k']? = some x → v < 6 → (v : Int) ∈ x.uses → R.mem v = true
theorem RdS.start (f : Fun) (r : List Bool) : RdS f r 0 (BSet.new 6) := ⟨BSet.new_ok (by omega), rfl, fun c' _ _ _ h => absurd h (by omega)⟩
theorem RdK.start {f : Fun} {r : List Bool} {c : Nat} {B : Blk} {R : BSet} (h : RdS f r c R) : RdK f r c B 0 R := ⟨h, fun k' _ _ h => absurd h (by omega)⟩
theorem RdK.step {f : Fun} {r : List Bool} {c k : Nat} {B : Blk} {R : BSet} {x : Ins} (h : RdK f r c B k R) (hx : B.ins[k]? = some x) : RdK f r c B (k + 1) (R.or (BSet.ofL 6 x.uses)) := by
  have ho : (BSet.ofL 6 x.uses).OK := BSet.ofL_ok (by omega) _
  refine ⟨⟨BSet.or_ok h.s.ok ho, by rw [BSet.or_n, h.s.n, BSet.ofL_n]; rfl, fun c' y z v h1 h2 h3 h4 h5 h6 => ?_⟩, fun k' z v h1 h2 h3 h4 => ?_⟩
  · rw [BSet.or_mem h.s.ok ho, h.s.has c' y z v h1 h2 h3 h4 h5 h6]; rfl
  · rw [BSet.or_mem h.s.ok ho]
    by_cases e : k' = k
    · subst e
      rw [hx] at h2; cases h2
      rw [BSet.ofL_mem (by omega)]
      simp [h3, h4]
    · rw [h.p k' z v (by omega) h2 h3 h4]; rfl
theorem RdK.done {f : Fun} {r : List Bool} {c k : Nat} {B : Blk} {R : BSet} (h : RdK f r c B k R) (hB : f.blks[c]? = some B) (hd : k = B.ins.length ∨ r[c]? = some false) : RdS f r (c + 1) R := by
  refine ⟨h.s.ok, h.s.n, fun c' y x v h1 h2 h3 h4 h5 h6 => ?_⟩
  by_cases e : c' = c
  · subst e
    rw [hB] at h3; cases h3
    rcases hd with hd | hd
    · obtain ⟨k', hk'⟩ := List.mem_iff_getElem?.1 h4
      have := (List.getElem?_eq_some_iff.1 hk').1
      exact h.p k' x v (by omega) hk' h5 h6
    · rw [hd] at h2; cases h2
  · exact h.s.has c' y x v (by omega) h2 h3 h4 h5 h6
theorem RdS.all {p : Prg} {f : Fun} (hok : FunOK p f) {r : List Bool} {R : BSet} {i : Int} {b : Nat} {B : Blk} (h : RdS f r f.blks.length R) (hf : p.fn i = some f) (hB : f.blks[b]? = some B) (hr : ∀ x, Rch (rclean (rclean f.gout)) b x → r[x]? = some true) :
    ∀ j, (p.at i b 0).mem j = true → R.mem j = true := by
  intro j hj
  cases hon : B.on
  · have hlv : f.blk (b : Int) = none := by
      have : f.live (b : Int) = false := by simp [Fun.live, hB, hon]
      simp [Fun.blk, this]
    unfold Prg.at at hj
    rw [hf] at hj
    simp [hlv, BSet.new_mem] at hj
  · have h0 := at_blk hf hB hon (k := 0) (by omega)
    simp only [Int.ofNat_zero, Int.natCast_zero] at h0
    have h1 : p.at i b 0 = f.at B 0 := h0
    rw [h1, Fun.at_sol hB, solAt_mem] at hj
    obtain ⟨c, y, x, h2, h3, h4, h5⟩ := lv_read hok hj
    exact h.has c y x j (List.getElem?_eq_some_iff.1 h3).1 (hr c h2) h3 h4 hj.lt h5
end Go.Proofs.YtchkknkjhiaooaaGreatDoor.Vm
namespace Go.Proofs.YtchkknkjhiaooaaGreatDoor.Vm
open Go Go.RowKit
variable {N : Nat} {g : Glob}
structure LqI (p : Prg) (i : Int) (gv : AV) (F : AFrame) (S : St) : Prop where
  f1 : F 1 = .int .i64 i
  f2 : F 2 = .ptr 0 0 0
  f5 : F 5 = .bool true
  f6 : F 6 = gv
  s0 : S.obj 0 = some (.row 1 [[p.funsV]])
  n : 0 < S.next
theorem LqI.up {p : Prg} {i : Int} {gv : AV} {F F' : AFrame} {S S' : St} (h : LqI p i gv F S) (h1 : F' 1 = F 1) (h2 : F' 2 = F 2) (h5 : F' 5 = F 5) (h6 : F' 6 = F 6) (h0 : S'.obj 0 = S.obj 0) (hn : S.next ≤ S'.next) : LqI p i gv F' S' :=
  ⟨by rw [h1]; exact h.f1, by rw [h2]; exact h.f2, by rw [h5]; exact h.f5, by rw [h6]; exact h.f6, by rw [h0]; exact h.s0, by have := h.n; omega⟩
structure LqN (b : Nat) (s : BSet) (rv : AV) (A1 A2 : Nat) (R : BSet) (F : AFrame) (S : St) : Prop where
  f7 : F 7 = .int .i64 b
  f8 : F 8 = .ptr A1 0 0
  f9 : F 9 = rv
  f10 : F 10 = .ptr A2 0 0
  s1 : S.obj A1 = some (.row 2 [[.int .i64 (s.n : Int), .fsl 1 (els u64c s.ws)]])
  s2 : S.obj A2 = some (.row 2 [[.int .i64 (R.n : Int), .fsl 1 (els u64c R.ws)]])
  o : 0 < A1 ∧ A1 < A2 ∧ A2 < S.next
theorem LqN.up {b : Nat} {s R : BSet} {rv : AV} {A1 A2 : Nat} {F F' : AFrame} {S S' : St} (h : LqN b s rv A1 A2 R F S) (h7 : F' 7 = F 7) (h8 : F' 8 = F 8) (h9 : F' 9 = F 9) (h10 : F' 10 = F 10) (e1 : S'.obj A1 = S.obj A1) (e2 : S'.obj A2 = S.obj A2) (hn : S.next ≤ S'.next) : LqN b s rv A1 A2 R F' S' :=
  ⟨by rw [h7]; exact h.f7, by rw [h8]; exact h.f8, by rw [h9]; exact h.f9, by rw [h10]; exact h.f10, by rw [e1]; exact h.s1, by rw [e2]; exact h.s2, by have := h.o; omega⟩
set_option maxHeartbeats 1000000 in
theorem law_LiveRead (p : Prg) (i : Int) : Ret P (gl N) false 12 [encP p, .int .i64 i] (.bool true) := by
  refine Ret.in c12 (by simp) ?_
  simp [k12]
  refine (awake_ret).use (n := 9) (by rfl) rfl ?_
  simp
  refine (ref06_Few p).use (n := 9) (by simp [mapOpt, pict_stab p.funsS.stab]) (by simp [solids, AV.solid, p.funsS.solid]) ?_
  cases hfew : p.few
  · simp
    exact RK.eq rfl rfl
  have hp := Prg.few_fit hfew
  simp
  refine (prog_Sane p hp).use (n := 9) (by simp [mapOpt, pict_stab p.funsS.stab]) (by simp [solids, AV.solid, p.funsS.solid]) ?_
  cases hsane : p.sane
  · simp
    exact RK.eq rfl rfl
  simp
  refine gua_decF (fun h1 => ?_) (fun h1 => ?_) <;> simp [h1, p.funsS.len]
  · refine bra_dec (fun h2 => ?_) (fun h2 => ?_) <;> simp [h2]
    · exact RK.eq rfl rfl
    obtain ⟨nI, rfl⟩ : ∃ n : Nat, i = (n : Int) := ⟨i.toNat, by omega⟩
    obtain ⟨f, hfi⟩ : ∃ f, p.funs[nI]? = some f := ⟨_, List.getElem?_eq_getElem (by omega)⟩
    have hf : p.fn (nI : Int) = some f := by
      unfold Prg.fn
      rw [if_pos ⟨by omega, hsane⟩]; exact hfi
    have hok := fn_ok hf
    have hl := hok.len
    simp [p.funsS.idx hfi]
    refine (ref10_Of f (by omega) (by omega) (fun b hb => by have := (hok.out b hb).1; omega)).use (n := 9) (by simp [mapOpt, pict_stab f.blksS.stab]) (by simp [solids, AV.solid, f.blksS.solid]) ?_
    have hgr := prc_gr (rclean f.gout)
    have hgl : (rclean f.gout).length = f.blks.length := by simp [rclean, Fun.gout]
    have hgm : ∀ l ∈ rclean f.gout, l.length < 1048576 := fun l h => by
      unfold rclean at h
      obtain ⟨m, _, rfl⟩ := List.mem_map.1 h
      have h3 := rcl_len m f.gout.length
      have h4 : f.gout.length = f.blks.length := by simp [Fun.gout]
      omega
    generalize hgv : AV.fsl 1 (els prc (rclean f.gout)) = gv at *
    simp
    refine W.whileI (fun (b : Nat) F S => b ≤ f.blks.length ∧ F 7 = .int .i64 b ∧ LqI p nI gv F S) (fun b => f.blks.length - b) ?_ 0 _ _ ?_
    · rintro b F S ⟨hb, f7, hI⟩
      have f1 := hI.f1
      have f2 := hI.f2
      have f5 := hI.f5
      have f6 := hI.f6
      have s0 := hI.s0
      simp [f6, f7, hgr.len, hgl]
      by_cases hlt : b < f.blks.length
      · have e4 := wrapS b (by omega)
        obtain ⟨B, hB⟩ : ∃ B, f.blks[b]? = some B := ⟨_, List.getElem?_eq_getElem hlt⟩
        have hso := p.at_ok nI b 0
        simp [hlt, f1, f2, f7, s0]
        refine (live_At p nI b 0 hp).use (n := 9) (by simp [mapOpt, pict_stab p.funsS.stab]) (by simp [solids, AV.solid, p.funsS.solid]) ?_
        have hall := fun r R (h : RdS f r f.blks.length R) hr => RdS.all hok h hf hB hr
        generalize p.at nI b 0 = s at *
        simp [f6, f7]
        refine (ref10_Reach hgr (by omega) hgm b (by omega)).use (n := 9) (by simp [mapOpt, pict_stab hgr.stab]) (by simp [solids, hgr.solid, AV.solid]) ?_
        rintro y ⟨r, rfl, hrl, hr⟩
        rw [hgl] at hrl
        simp
        refine (new_ret).use (n := 9) (by rfl) rfl ?_
        generalize hrv : AV.fsl 1 (els boolc r) = rv
        have hrS : FSl boolc 1 rv r := .inl hrv.symm
        simp
        refine W.whileI (fun (c : Nat) F S' => c ≤ f.blks.length ∧ F 11 = .int .i64 c ∧ LqI p nI gv F S' ∧ ∃ R, LqN b s rv S.next (S.next + 1) R F S' ∧ RdS f r c R) (fun c => f.blks.length - c) ?_ 0 _ _ ?_
        · clear f1 f2 f5 f6 f7
          rintro c F S' ⟨hc, f11, hI', R, hN, hRS⟩
          have f1 := hI'.f1
          have f2 := hI'.f2
          have f6 := hI'.f6
          have f8 := hN.f8
          have f10 := hN.f10
          have s0' := hI'.s0
          simp [f6, f11, hgr.len, hgl]
          by_cases hltc : c < f.blks.length
          · have e5 := wrapS c (by omega)
            obtain ⟨Cb, hC⟩ : ∃ B, f.blks[c]? = some B := ⟨_, List.getElem?_eq_getElem hltc⟩
            have hCl : Cb.ins.length ≤ 16 := (hok.blk (List.mem_of_getElem? hC)).2.2.2.1
            obtain ⟨mc, hmc⟩ : ∃ y, r[c]? = some y := ⟨_, List.getElem?_eq_getElem (by omega)⟩
            simp [hltc, f1, f2, f11, s0', p.funsS.idx hfi, f.blksS.idx hC]
            refine W.whileI (fun (k : Nat) F S' => k ≤ Cb.ins.length ∧ F 11 = .int .i64 c ∧ F 12 = Cb.insV ∧ F 13 = .int .i64 k ∧ LqI p nI gv F S' ∧ ∃ R, LqN b s rv S.next (S.next + 1) R F S' ∧ RdK f r c Cb k R) (fun k => Cb.ins.length - k) ?_ 0 _ _ ?_
            · clear f1 f2 f6 f8 f10 f11 s0' hI' hN hRS
              rintro k F S' ⟨hk, f11, f12, f13, hI', R, hN, hK⟩
              have f9 := hN.f9
              have f10 := hN.f10
              have s2 := hN.s2
              have hno := hN.o
              by_cases hltk : k < Cb.ins.length
              · have e6 := wrapS k (by omega)
                obtain ⟨x, hx⟩ : ∃ x, Cb.ins[k]? = some x := ⟨_, List.getElem?_eq_getElem hltk⟩
                simp [f9, f11, f12, f13, Cb.insS.len, hltk, hrS.idx hmc, boolc]
                cases mc
                · simp [f11, e5]
                  exact ⟨c + 1, by omega, by omega, by omega, hI'.up rfl rfl rfl rfl rfl (Nat.le_refl _), R, hN.up rfl rfl rfl rfl rfl rfl (Nat.le_refl _), hK.done hC (.inr hmc)⟩
                · have huf : FSl intc 1 (encF intc 1 x.uses) x.uses := encF_sl
                  have hul := uses_len x
                  have hofl : (BSet.ofL 6 x.uses).OK := BSet.ofL_ok (by omega) _
                  simp
                  refine Dra.auto [] mix ?_ ?_
                  · kernel_rfl
                  simp [classes, f10, f12, f13, s2, Cb.insS.idx hx]
                  refine (instr_Uses x).ret.b (n := 9) (by rfl) rfl ?_
                  simp
                  refine (of_ret huf (by omega)).b (n := 9) (by simp [mapOpt, pict_stab huf.stab]) rfl ?_
                  simp
                  refine (union_ret hK.s.ok hofl).b (n := 9) (by simp [mapOpt]) rfl ?_
                  simp [f10, s2, f11, f12, f13, e6]
                  exact ⟨k + 1, by omega, by omega, by omega, hI'.up rfl rfl rfl rfl (by simp [show ¬ 0 = S.next + 1 by omega]) (by simp), R.or (BSet.ofL 6 x.uses), ⟨hN.f7, hN.f8, hN.f9, hN.f10, by simp [hN.s1], by simp, by simpa using hN.o⟩, hK.step hx⟩
              · have : k = Cb.ins.length := by omega
                subst this
                simp [f12, f13, Cb.insS.len]
                simp [f11, e5]
                exact ⟨c + 1, by omega, by omega, by omega, hI'.up rfl rfl rfl rfl rfl (Nat.le_refl _), R, hN.up rfl rfl rfl rfl rfl rfl (Nat.le_refl _), hK.done hC (.inl rfl)⟩
            · simp [f11]
              exact ⟨hI'.up rfl rfl rfl rfl rfl (Nat.le_refl _), R, hN.up rfl rfl rfl rfl rfl rfl (Nat.le_refl _), RdK.start hRS⟩
          · have : c = f.blks.length := by omega
            subst this
            have hle := hall r R hRS hr
            simp [f8, f10, hN.s1, hN.s2]
            refine (bits_Leq hso.1 hRS.ok hle).use (n := 9) (by simp [mapOpt]) rfl ?_
            simp [f8, hN.s1, hso.2, hN.f7, e4]
            exact ⟨b + 1, by omega, by omega, by omega, hI'.up rfl rfl rfl rfl rfl (Nat.le_refl _)⟩
        · simp
          refine ⟨hI.up rfl rfl rfl rfl (by simp [show ¬ 0 = S.next by have := hI.n; omega, show ¬ 0 = S.next + 1 by omega]) (by simp; omega), BSet.new 6, ⟨by simp [f7], by simp, by simp, by simp, by simp, by simp, by have := hI.n; simp; omega⟩, RdS.start f r⟩
      · have : b = f.blks.length := by omega
        subst this
        simp [f5]
        exact RK.eq rfl rfl
    · simp
      exact ⟨rfl, rfl, rfl, rfl, by simp, by simp⟩
  · exact RK.eq rfl rfl
end Go.Proofs.YtchkknkjhiaooaaGreatDoor.Vm
