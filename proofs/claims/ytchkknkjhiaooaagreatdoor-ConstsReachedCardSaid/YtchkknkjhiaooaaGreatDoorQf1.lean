/- A part of the proof: Vw Vy Vz Rr Rs Rq Sd Rt Sf. -/
import Derived.IntWalk
import Derived.KernelRfl
import Derived.Test.YtchkknkjhiaooaaGreatDoorQf0
set_option linter.unusedVariables false
set_option linter.unusedSimpArgs false
set_option linter.constructorNameAsVariable false
namespace Go.Proofs.YtchkknkjhiaooaaGreatDoor.Vm
open Go Go.RowKit
section
variable {P : Program} {g : Glob}
variable {l : List VOper} {aft : List (List Nat)} {F FF : AFrame} {S0 R : St} {ds : List DS} {G : Nat → AFrame}
section
variable (D : DrawOK P g l aft F FF S0 R ds G)
include D
end
end
end Go.Proofs.YtchkknkjhiaooaaGreatDoor.Vm
namespace Go.Proofs.YtchkknkjhiaooaaGreatDoor.Vm
open Go Go.RowKit
section
variable {P : Program} {g : Glob}
section
variable {d : Option Nat} {F : AFrame} {S S0 R : St} {af : List Nat}
end
end
section
variable {P : Program} {g : Glob}
attribute [simp] partV fillV over fitsAll EK.fits eqCells valEq scalarEq okEl mapOpt SK.isRead SK.isMake
attribute [simp] AV.plain plains AV.solid solids AV.young youngs youngss
attribute [simp] KK.fits cutL
end
end Go.Proofs.YtchkknkjhiaooaaGreatDoor.Vm
namespace Go.Proofs.YtchkknkjhiaooaaGreatDoor.Vm
open Go Go.RowKit
section
variable {P : Program} {g : Glob}
end
section
variable {α : Type} {e : α → List AV} {l m : List α}
end
section
variable {P : Program} {g : Glob}
end
section
variable {α : Type} {e : α → List AV} [PlainE e] {l : List α}
end
attribute [simp] AObj.plainO Kept AObj.ren AV.shift shifts
section
variable {α : Type} {e : α → List AV} {sz : Nat} {v : AV} {l : List α}
end
section
variable {P : Program} {g : Glob} {α : Type} {e : α → List AV} {sz : Nat} {l : List α}
end
end Go.Proofs.YtchkknkjhiaooaaGreatDoor.Vm
namespace Go.Proofs.YtchkknkjhiaooaaGreatDoor.Vm
open Go Go.RowKit
variable {N : Nat} {g : Glob}
inductive Rch (G : List (List Int)) (a0 : Nat) : Nat → Prop
  | base : Rch G a0 a0
  | step {a b : Nat} {l : List Int} (h : Rch G a0 a) (hl : G[a]? = some l) (hb : (b : Int) ∈ l) : Rch G a0 b
structure Wlk (G : List (List Int)) (a0 : Nat) (T : List Nat) (met : List Bool) (way : List (Nat × Nat)) : Prop where
  m : ∀ x : Nat, met[x]? = some true ↔ x ∈ T ∨ ∃ nx, (x, nx) ∈ way
  r : ∀ x : Nat, met[x]? = some true → Rch G a0 x
  c : ∀ x ∈ T, ∀ l, G[x]? = some l → ∀ b : Nat, (b : Int) ∈ l → met[b]? = some true
  w : ∀ a nx, (a, nx) ∈ way → ∀ l, G[a]? = some l → ∀ k, k < nx → ∀ b : Nat, l[k]? = some (b : Int) → met[b]? = some true
  z : met[a0]? = some true
theorem set_true {met : List Bool} {b x : Nat} (hb : met[b]? = some false) : (met.set b true)[x]? = some true ↔ met[x]? = some true ∨ x = b := by
  have hl := (List.getElem?_eq_some_iff.1 hb).1
  by_cases h : x = b
  · subst h; simp [hl]
  · rw [List.getElem?_set_ne (Ne.symm h)]; simp [h]
theorem Wlk.start {G : List (List Int)} {a0 : Nat} (h : a0 < G.length) : Wlk G a0 [] ((List.replicate G.length false).set a0 true) [(a0, 0)] := by
  have hf : (List.replicate G.length false)[a0]? = some false := by simp [h]
  have hn : ∀ x : Nat, ¬ (List.replicate G.length false)[x]? = some true := fun x hx => by
    have := List.mem_of_getElem? hx
    rw [List.mem_replicate] at this
    cases this.2
  refine ⟨fun x => ?_, fun x hx => ?_, fun x hx => by (cases hx), fun a nx ha l hl k hk => ?_, ?_⟩
  · rw [set_true hf]; simp [hn x]
  · rw [set_true hf] at hx
    rcases hx with hx | rfl
    · exact absurd hx (hn x)
    · exact .base
  · simp at ha; omega
  · rw [set_true hf]; exact .inr rfl
theorem Wlk.push {G : List (List Int)} {a0 a nx b : Nat} {T : List Nat} {met : List Bool} {pre : List (Nat × Nat)} {l : List Int} (h : Wlk G a0 T met (pre ++ [(a, nx)])) (hl : G[a]? = some l) (hx : l[nx]? = some (b : Int)) (hb : met[b]? = some false) : Wlk G a0 T (met.set b true) (pre ++ [(a, nx)] ++ [(b, 0)]) := by
  have ha : met[a]? = some true := (h.m a).2 (.inr ⟨nx, by simp⟩)
  refine ⟨fun x => ?_, fun x hx' => ?_, fun x hx' l' hl' c hc => ?_, fun a' nx' ha' l' hl' k hk c hc => ?_, ?_⟩
  · rw [set_true hb, h.m x]
    constructor
    · rintro ((h1 | ⟨n, h1⟩) | rfl)
      · exact .inl h1
      · exact .inr ⟨n, List.mem_append_left _ h1⟩
      · exact .inr ⟨0, by simp⟩
    · rintro (h1 | ⟨n, h1⟩)
      · exact .inl (.inl h1)
      · rcases List.mem_append.1 h1 with h1 | h1
        · exact .inl (.inr ⟨n, h1⟩)
        · simp at h1; exact .inr h1.1
  · rw [set_true hb] at hx'
    rcases hx' with hx' | rfl
    · exact h.r x hx'
    · exact .step (h.r a ha) hl (List.mem_of_getElem? hx)
  · rw [set_true hb]; exact .inl (h.c x hx' l' hl' c hc)
  · rcases List.mem_append.1 ha' with h1 | h1
    · rw [set_true hb]; exact .inl (h.w a' nx' h1 l' hl' k hk c hc)
    · simp at h1; omega
  · rw [set_true hb]; exact .inl h.z
theorem Wlk.next {G : List (List Int)} {a0 a nx b : Nat} {T : List Nat} {met : List Bool} {pre : List (Nat × Nat)} {l : List Int} (h : Wlk G a0 T met (pre ++ [(a, nx)])) (hl : G[a]? = some l) (hx : l[nx]? = some (b : Int)) (hb : met[b]? = some true) : Wlk G a0 T met (pre ++ [(a, nx + 1)]) := by
  refine ⟨fun x => ?_, h.r, h.c, fun a' nx' ha' l' hl' k hk c hc => ?_, h.z⟩
  · rw [h.m x]
    constructor
    · rintro (h1 | ⟨n, h1⟩)
      · exact .inl h1
      · rcases List.mem_append.1 h1 with h1 | h1
        · exact .inr ⟨n, List.mem_append_left _ h1⟩
        · simp at h1; exact .inr ⟨nx + 1, by simp [h1.1]⟩
    · rintro (h1 | ⟨n, h1⟩)
      · exact .inl h1
      · rcases List.mem_append.1 h1 with h1 | h1
        · exact .inr ⟨n, List.mem_append_left _ h1⟩
        · simp at h1; exact .inr ⟨nx, by simp [h1.1]⟩
  · rcases List.mem_append.1 ha' with h1 | h1
    · exact h.w a' nx' (List.mem_append_left _ h1) l' hl' k hk c hc
    · simp at h1
      obtain ⟨rfl, rfl⟩ := h1
      rw [hl] at hl'; cases hl'
      by_cases hkn : k = nx
      · subst hkn
        rw [hx] at hc
        have : b = c := by simp at hc; omega
        rw [← this]; exact hb
      · exact h.w a' nx (by simp) l hl k (by omega) c hc
theorem Wlk.pop {G : List (List Int)} {a0 a nx : Nat} {T : List Nat} {met : List Bool} {pre : List (Nat × Nat)} {l : List Int} (h : Wlk G a0 T met (pre ++ [(a, nx)])) (hl : G[a]? = some l) (hx : l.length ≤ nx) : Wlk G a0 (T ++ [a]) met pre := by
  refine ⟨fun x => ?_, h.r, fun x hx' l' hl' c hc => ?_, fun a' nx' ha' => h.w a' nx' (List.mem_append_left _ ha'), h.z⟩
  · rw [h.m x]
    constructor
    · rintro (h1 | ⟨n, h1⟩)
      · exact .inl (List.mem_append_left _ h1)
      · rcases List.mem_append.1 h1 with h1 | h1
        · exact .inr ⟨n, h1⟩
        · simp at h1; exact .inl (by simp [h1.1])
    · rintro (h1 | ⟨n, h1⟩)
      · rcases List.mem_append.1 h1 with h1 | h1
        · exact .inl h1
        · simp at h1; exact .inr ⟨nx, by simp [h1]⟩
      · exact .inr ⟨n, List.mem_append_left _ h1⟩
  · rcases List.mem_append.1 hx' with h1 | h1
    · exact h.c x h1 l' hl' c hc
    · simp at h1; subst h1
      rw [hl] at hl'; cases hl'
      obtain ⟨k, hk⟩ := List.mem_iff_getElem?.1 hc
      have := (List.getElem?_eq_some_iff.1 hk).1
      exact h.w x nx (by simp) l hl k (by omega) c hk
theorem Wlk.done {G : List (List Int)} {a0 : Nat} {T : List Nat} {met : List Bool} (h : Wlk G a0 T met []) (x : Nat) : x ∈ T ↔ Rch G a0 x := by
  have hm : ∀ y : Nat, met[y]? = some true ↔ y ∈ T := fun y => by rw [h.m y]; simp
  constructor
  · intro hx; exact h.r x ((hm x).2 hx)
  · intro hr
    induction hr with
    | base => exact (hm a0).1 h.z
    | step _ hl hb ih => exact (hm _).1 (h.c _ ih _ hl _ hb)
theorem graph_eachT {v yf : AV} {G : List (List Int)} {S : St} {K : AV → St → Prop} (a0 : Nat) (hv : GrV v G) (hn : G.length ≤ 64) (hin : ∀ l ∈ G, l.length < 1048576 ∧ ∀ x ∈ l, 0 ≤ x ∧ x < G.length) (hyc : yf.cells = [yf])
    (Inv : List Nat → (Nat → Prop) → St → Prop) (C0 : Nat → Prop) (h0 : Inv [] C0 S)
    (hlt : ∀ k C S', Inv k C S' → ∀ o, C o → o < S'.next)
    (hstab : ∀ k C S' S'', Inv k C S' → S'.next ≤ S''.next → (∀ o, C o → S''.obj o = S'.obj o) → Inv k C S'')
    (hst : ∀ k C (x : Nat) S', x < G.length → k.length < G.length → Inv k C S' → ∀ K' : AV → St → Prop, (∀ C' S'', Inv (k ++ [x]) C' S'' → S'.next ≤ S''.next → (∀ o, o < S'.next → ¬ C o → S''.obj o = S'.obj o) → (∀ o, C' o → C o ∨ S'.next ≤ o) → K' (.tuple []) S'') → CalV P g yf [.int .i64 (x : Int)] S' K')
    (hk : ∀ k C S', k.length ≤ G.length → (∀ x, x ∈ k ↔ a0 < G.length ∧ Rch G a0 x) → Inv k C S' → S.next ≤ S'.next → (∀ o, o < S.next → ¬ C0 o → S'.obj o = S.obj o) → K (.tuple []) S') : Cal P g 103 [v, .int .i64 (a0 : Int), yf] S K := by
  refine c103.in (by simp) ?_
  simp [k103]
  refine (graph_is hv.len hv.stab (a0 : Int)).use (n := 9) ?_ rfl ?_ <;> simp [pict_stab hv.stab]
  by_cases ha : a0 < G.length
  · have e1 : inGr G.length (a0 : Int) = true := by simp [inGr, ha]
    have hroom : G.length ≤ room := by simp [room]; omega
    simp [e1, hv.len, hroom, ix_sl ha]
    have hg : (List.replicate G.length [AV.bool false])[a0]? = some [AV.bool false] := by simp [ha]
    simp [hg]
    refine W.whileF (fun (a : List Bool × List (Nat × Nat)) F S' => ∃ (k : List Nat) (C : Nat → Prop) (wo : Nat), F 0 = v ∧ F 2 = yf ∧ F 6 = .sl 1 S.next 0 G.length ∧ F 7 = .sl 2 wo 0 a.2.length ∧ S'.obj S.next = some (.row 1 (els boolc a.1)) ∧ a.1.length = G.length ∧
      S'.obj wo = some (.row 2 (els stepc a.2)) ∧ wo < S'.next ∧ S.next < wo ∧ ¬ C S.next ∧ ¬ C wo ∧ Inv k C S' ∧ (∀ o, o < S.next → ¬ C0 o → S'.obj o = S.obj o) ∧ (∀ o, C o → C0 o ∨ S.next ≤ o) ∧ (∀ p ∈ a.2, p.1 < G.length) ∧ k.length + a.2.length + a.1.count false = G.length ∧ Wlk G a0 k a.1 a.2)
      (fun a => 2 * a.1.count false + a.2.length) ?_ ((List.replicate G.length false).set a0 true, [(a0, 0)]) _ _ ?_
    · rintro ⟨met, way⟩ F S' ⟨k, C, wo, h0', h2, h6, h7, hmo, hml, hwo, hwl, hwn, hCm, hCw, hI, hfr, hCC, hway, hcnt, hW⟩
      simp only at h7 hmo hml hwo hway hcnt hW
      by_cases hw0 : way = []
      · subst hw0
        simp [h7]
        exact hk k C S' (by simp at hcnt; omega) (fun x => by rw [hW.done]; simp [ha]) hI (by omega) hfr
      · obtain ⟨pre, ⟨a, nx⟩, rfl⟩ : ∃ pre p, way = pre ++ [p] := ⟨way.dropLast, way.getLast hw0, (List.dropLast_concat_getLast hw0).symm⟩
        have han : a < G.length := hway (a, nx) (by simp)
        obtain ⟨l, hl⟩ : ∃ l, G[a]? = some l := ⟨_, List.getElem?_eq_getElem han⟩
        obtain ⟨w, hw, hix⟩ := hv.idx hl
        obtain ⟨hll, hlx⟩ := hin l (List.mem_of_getElem? hl)
        have hpre : pre.length < 64 := by simp at hcnt; omega
        have e5 : IntKind.i64.wrap (pre.length : Int) = (pre.length : Int) := wrap_in (by omega)
        have hixp : pk (PK.indexAddr 2) [AV.sl 2 wo 0 (pre.length + 1), AV.int IntKind.i64 (pre.length : Int)] = some (.ptr wo (0 + pre.length) 0) := ix_sl (by omega)
        simp [h7, e5, hixp]
        refine W.whileI (fun (nx : Nat) F S2 => F 0 = v ∧ F 2 = yf ∧ F 6 = .sl 1 S.next 0 G.length ∧ F 7 = .sl 2 wo 0 (pre.length + 1) ∧ F 8 = .ptr wo pre.length 0 ∧ S2.obj wo = some (.row 2 (els stepc (pre ++ [(a, nx)]))) ∧ S2.next = S'.next ∧ (∀ o, o ≠ wo → S2.obj o = S'.obj o) ∧ Wlk G a0 k met (pre ++ [(a, nx)])) (fun nx => l.length - nx) ?_ nx _ _ ?_
        · clear hW
          rintro nx F S2 ⟨h0', h2, h6, h7, h8, hwo, hnx, hoth, hW⟩
          have hget : (els stepc (pre ++ [(a, nx)]))[pre.length]? = some [.int .i64 (a : Int), .int .i64 (nx : Int)] := by simp [els, stepc]
          have hget2 : ∀ h : pre.length < (els stepc (pre ++ [(a, nx)])).length, (els stepc (pre ++ [(a, nx)]))[pre.length] = [.int .i64 (a : Int), .int .i64 (nx : Int)] := fun h => by simp [els, stepc]
          have hmo2 : S2.obj S.next = some (.row 1 (els boolc met)) := by rw [hoth _ (by omega)]; exact hmo
          simp
          refine Dra.auto [] mix ?_ ?_
          · kernel_rfl
          simp [classes, h0', h8, hwo, hget, hget2, hix, hw.len]
          by_cases hlt' : nx < l.length
          · obtain ⟨x, hx⟩ : ∃ x, l[nx]? = some x := ⟨_, List.getElem?_eq_getElem hlt'⟩
            have hxx := hlx x (List.mem_of_getElem? hx)
            obtain ⟨b, rfl⟩ : ∃ b : Nat, x = (b : Int) := ⟨x.toNat, by omega⟩
            have hbn : b < G.length := by omega
            have e4 := wrapS nx (by omega)
            obtain ⟨mb, hmb⟩ : ∃ y, met[b]? = some y := ⟨_, List.getElem?_eq_getElem (by omega)⟩
            simp [hlt']
            refine Dra.auto [] mix ?_ ?_
            · kernel_rfl
            simp [classes, h0', h8, hwo, hget, hget2, hix, hw.idx hx, intc]
            simp [h6, ix_sl hbn, hmo2, hmb, boolc]
            have hwo1 : ¬ wo = S.next := by omega
            have hwo1' : ¬ S.next = wo := by omega
            cases mb
            · have hroom2 : pre.length + 1 + 1 ≤ room := by simp [room]; omega
              have hr0 : ¬ room = 0 := by simp [room]
              have hwn2 : ¬ wo = S2.next := by omega
              have hSn2 : ¬ S.next = S2.next := by omega
              simp [h6, h7, ix_sl hbn, hmo2, hmb, boolc, hwo, hwo1, hwo1', hwn2, hSn2, hroom2, hr0]
              have hcs := cnt_set hmb
              refine ⟨met.set b true, pre ++ [(a, nx)] ++ [(b, 0)], ?_, _, Wk.refl _, h0', h2, k, C, S2.next + 1, ⟨rfl, by simp⟩, ?_, by simp [hml], ?_, ?_, ?_, hCm, ?_, ?_, ?_, hCC, ?_, ?_, ?_⟩
              · simp; omega
              · simp [hwo1', hSn2, show ¬ S.next = S2.next + 1 by omega]
                rw [← els_set]; rfl
              · simp
                rw [List.take_of_length_le (by simp)]
                simp [els, stepc]
              · simp
              · omega
              · intro h
                have := hlt k C S' hI _ h
                omega
              · refine hstab k C S' _ hI (by simp; omega) fun o ho => ?_
                have h1 : ¬ o = wo := fun e => hCw (e ▸ ho)
                have h2 : ¬ o = S.next := fun e => hCm (e ▸ ho)
                have h3 := hlt k C S' hI o ho
                simp [h1, h2, show ¬ o = S2.next + 1 by omega, show ¬ o = S2.next by omega]
                exact hoth o h1
              · intro o ho hc0
                simp [show ¬ o = wo by omega, show ¬ o = S.next by omega, show ¬ o = S2.next + 1 by omega, show ¬ o = S2.next by omega]
                rw [hoth o (by omega)]
                exact hfr o ho hc0
              · intro p q hp
                simp only [List.mem_append, List.mem_singleton, Prod.mk.injEq] at hp
                rcases hp with (hp | ⟨rfl, _⟩) | ⟨rfl, _⟩
                · exact hway (p, q) (by simp [hp])
                · exact han
                · exact hbn
              · simp at hcnt ⊢; omega
              · exact hW.push hl hx hmb
            · simp [h8, hwo, hget, hget2, h0', h2, h6, h7, e4]
              refine ⟨nx + 1, by omega, ?_, hnx, fun o ho => by simp [ho]; exact hoth o ho, hW.next hl hx hmb⟩
              rw [show [AV.int IntKind.i64 (a : Int), AV.int IntKind.i64 ((nx : Int) + 1)] = stepc (a, nx + 1) by simp [stepc], els_set, set_last]
          · simp [hlt', h8, hwo, hget, hget2, h2]
            refine hst k C a S2 han (by simp at hcnt; omega) (hstab k C S' S2 hI (by omega) fun o ho => hoth o fun e => hCw (e ▸ ho)) _ ?_
            intro C' S3 hI3 hn3 hk3 hC3
            simp [h7, e5, h0', h2, h6, sl_to (show pre.length ≤ pre.length + 1 by omega)]
            have hwo3 : S3.obj wo = some (.row 2 (els stepc (pre ++ [(a, nx)]))) := by rw [hk3 wo (by omega) hCw]; exact hwo
            have hcut := Wk.cut pre.length hwo3
            rw [els_take, List.take_left' rfl] at hcut
            have hC1 : ¬ C' S.next := fun h => by
              rcases hC3 _ h with h | h
              · exact hCm h
              · omega
            have hC2 : ¬ C' wo := fun h => by
              rcases hC3 _ h with h | h
              · exact hCw h
              · omega
            refine ⟨met, pre, by omega, _, hcut, k ++ [a], C', wo, ⟨rfl, rfl⟩, ?_, hml, by simp, by simp; omega, hwn, hC1, hC2, ?_, ?_, ?_, ?_, ?_, hW.pop hl (by omega)⟩
            · simp [show ¬ S.next = wo by omega]
              rw [hk3 _ (by omega) hCm]; exact hmo2
            · refine hstab (k ++ [a]) C' S3 _ hI3 (by simp) fun o ho => ?_
              have h1 : ¬ o = wo := fun e => hC2 (e ▸ ho)
              simp [h1]
            · intro o ho hc0
              simp [show ¬ o = wo by omega]
              rw [hk3 o (by omega) fun h => by
                rcases hCC o h with h | h
                · exact hc0 h
                · omega]
              rw [hoth o (by omega)]
              exact hfr o ho hc0
            · intro o ho
              rcases hC3 o ho with h | h
              · exact hCC o h
              · exact .inr (by omega)
            · intro p q hp
              exact hway (p, q) (by simp [hp])
            · simp at hcnt ⊢; omega
        · simp
          exact ⟨h0', h2, h6, by simpa using h7, hwo, hW⟩
    · refine ⟨[], C0, S.next + 1, ?_⟩
      have hcs := cnt_set (l := List.replicate G.length false) (i := a0) (by simp [ha])
      simp at hcs
      simp [hyc]
      refine ⟨?_, by simp [els, stepc], fun h => ?_, fun h => ?_, ?_, ?_, fun o h => .inl h, ha, by omega, Wlk.start ha⟩
      · show (List.replicate G.length (boolc false)).set a0 (boolc true) = _
        rw [els_replicate, els_set]
      · have := hlt [] C0 S h0 _ h; omega
      · have := hlt [] C0 S h0 _ h; omega
      · refine hstab [] C0 S _ h0 (by simp; omega) fun o ho => ?_
        have := hlt [] C0 S h0 o ho
        simp [show ¬ o = S.next + 1 by omega, show ¬ o = S.next by omega]
      · intro o ho _
        simp [show ¬ o = S.next + 1 by omega, show ¬ o = S.next by omega]
  · have e1 : inGr G.length (a0 : Int) = false := by simp [inGr]; omega
    simp [e1]
    exact hk [] C0 S (by simp) (fun x => by simp [ha]) h0 (Nat.le_refl _) (fun _ _ _ => rfl)
noncomputable def marks (n : Nat) (T : Nat → Prop) : List Bool := open Classical in (List.range n).map fun x => decide (T x)
theorem marks_set {n x : Nat} {T : List Nat} (hx : x < n) : (marks n (fun y => y ∈ T)).set x true = marks n (fun y => y ∈ T ++ [x]) := by
  unfold marks
  apply List.ext_getElem?
  intro i
  by_cases hi : i = x
  · subst hi
    rw [List.getElem?_set_self (by simpa using hx)]
    simp [hx]
  · rw [List.getElem?_set_ne (Ne.symm hi)]
    by_cases hin : i < n
    · simp [hin, hi]
    · simp [hin]
theorem marks_same {n : Nat} {T T' : Nat → Prop} (h : ∀ x, x < n → (T x ↔ T' x)) : marks n T = marks n T' := by
  unfold marks
  refine List.map_congr_left fun x hx => ?_
  rw [List.mem_range] at hx
  simp [h x hx]
theorem marks_none (n : Nat) : (marks n fun y => y ∈ ([] : List Nat)) = List.replicate n false := by
  apply List.ext_getElem?
  intro i
  by_cases hi : i < n <;> simp [marks, hi, List.getElem?_replicate]
theorem graph_ReachF {n x : Nat} {T : List Nat} {S : St} {K : AV → St → Prop} (hx : x < n) (h1 : S.obj 1 = some (.row 1 [[.sl 1 0 0 n]])) (h0 : S.obj 0 = some (.row 1 (els boolc (marks n fun y => y ∈ T))))
    (hK : K (.tuple []) (S.set 0 (.row 1 (els boolc (marks n fun y => y ∈ T ++ [x]))))) : Cal P g 105 [.int .i64 (x : Int), .ptr 1 0 0] S K := by
  refine c105.in (by simp) ?_
  have hl : (marks n fun y => y ∈ T).length = n := by simp [marks]
  obtain ⟨b, hb⟩ : ∃ b, (marks n fun y => y ∈ T)[x]? = some b := ⟨_, List.getElem?_eq_getElem (by omega)⟩
  simp [k105, h1, ix_sl hx, h0, hb, boolc]
  rw [← marks_set hx, ← els_set] at hK
  exact hK
theorem graph_Reach {v : AV} {G : List (List Int)} (hv : GrV v G) (hG : G.length ≤ 64) (hl : ∀ l ∈ G, l.length < 1048576) (a0 : Nat) (ha0 : a0 < G.length) : Ret P g false 56 [v, .int .i64 (a0 : Int)] (.fsl 1 (els boolc (marks G.length (Rch (cleanG G) a0)))) := by
  refine Ret.in c56 (by simp) ?_
  have hroom : G.length ≤ room := by simp [room]; omega
  simp [k56, hv.len, hroom]
  refine (graph_Clean hv (by omega) (fun l h => by have := hl l h; omega)).use (n := 9) ?_ rfl ?_ <;> simp [pict_stab hv.stab]
  have hCl : (cleanG G).length = G.length := by simp [cleanG]
  have hCm : ∀ l ∈ cleanG G, l.length < 1048576 ∧ ∀ x ∈ l, 0 ≤ x ∧ x < (cleanG G).length := by
    intro l h
    rw [hCl]
    simp only [cleanG, List.mem_map] at h
    obtain ⟨m, hm, rfl⟩ := h
    exact ⟨Nat.lt_of_le_of_lt (cleanL_len _ _) (hl m hm), fun x hx => (cleanL_mem.1 hx).2⟩
  refine graph_eachT a0 (encG_gr (cleanG G)) (by omega) hCm rfl (fun T C S' => C = (fun o => o = 0 ∨ o = 1) ∧ 2 ≤ S'.next ∧ S'.obj 1 = some (.row 1 [[.sl 1 0 0 G.length]]) ∧ S'.obj 0 = some (.row 1 (els boolc (marks G.length fun y => y ∈ T)))) (fun o => o = 0 ∨ o = 1) ?_ ?_ ?_ ?_ ?_
  · refine ⟨rfl, by simp, by simp, ?_⟩
    rw [marks_none, ← els_replicate]
    simp [boolc]
  · rintro k C S' ⟨rfl, h, _⟩ o (rfl | rfl) <;> omega
  · rintro k C S' S'' ⟨rfl, h1, h2, h3⟩ hn hs
    exact ⟨rfl, by omega, by rw [hs 1 (.inr rfl)]; exact h2, by rw [hs 0 (.inl rfl)]; exact h3⟩
  · rintro k C x S' hx hkn ⟨rfl, h1, h2, h3⟩ K' hK'
    rw [hCl] at hx
    simp
    refine graph_ReachF hx h2 h3 (hK' _ _ ⟨rfl, by simpa using h1, by simpa using h2, by simp⟩ (by simp) (fun o ho hC => ?_) fun o ho => .inl ho)
    have : ¬ o = 0 := fun e => hC (.inl e)
    simp [this]
  · rintro k C S' hkn hT ⟨rfl, h1, h2, h3⟩ hn hfr
    simp [h2]
    have e : (marks G.length fun y => y ∈ k) = marks G.length (Rch (cleanG G) a0) := marks_same fun x _ => by rw [hT x, hCl]; simp [ha0]
    rw [e] at h3
    exact ⟨9, pict_rowP (n := 7) h3 (by simp [marks])⟩
end Go.Proofs.YtchkknkjhiaooaaGreatDoor.Vm
namespace Go.Proofs.YtchkknkjhiaooaaGreatDoor.Vm
open Go Go.RowKit
variable {N : Nat} {g : Glob}
def Blk.gout (b : Blk) : List Int := if b.on = true then b.out else []
def Blk.gvB (b : Blk) : AV := if b.on = true then b.outV else .nilsl
theorem Blk.gS (b : Blk) : FSl intc 1 b.gvB b.gout := by
  unfold Blk.gvB Blk.gout
  split
  · exact b.outS
  · exact .inr ⟨rfl, rfl⟩
def Fun.gv (f : Fun) (j : Nat) : AV := match f.blks[j]? with | some b => b.gvB | none => .nilsl
def Fun.rowsTo (f : Fun) (k : Nat) : List (List AV) := (List.range f.blks.length).map fun j => [if j < k then f.gv j else .nilsl]
theorem Fun.rowsTo_len (f : Fun) (k : Nat) : (f.rowsTo k).length = f.blks.length := by simp [Fun.rowsTo]
theorem Fun.rowsTo_at (f : Fun) {k j : Nat} (h : j < f.blks.length) : (f.rowsTo k)[j]? = some [if j < k then f.gv j else .nilsl] := by simp [Fun.rowsTo, h]
theorem Fun.rowsTo_zero (f : Fun) : f.rowsTo 0 = List.replicate f.blks.length [.nilsl] := by
  apply List.ext_getElem?
  intro i
  by_cases hi : i < f.blks.length
  · rw [f.rowsTo_at hi, if_neg (by omega)]; simp [hi]
  · rw [List.getElem?_eq_none (by rw [f.rowsTo_len]; omega)]; simp [List.getElem?_replicate, hi]
theorem Fun.rowsTo_set (f : Fun) {k : Nat} (h : k < f.blks.length) : (f.rowsTo k).set k [f.gv k] = f.rowsTo (k + 1) := by
  apply List.ext_getElem?
  intro i
  by_cases hi : i < f.blks.length
  · by_cases e : i = k
    · subst e
      rw [List.getElem?_set_self (by rw [f.rowsTo_len]; exact hi), f.rowsTo_at hi, if_pos (by omega)]
    · rw [List.getElem?_set_ne (Ne.symm e), f.rowsTo_at hi, f.rowsTo_at hi]
      by_cases h2 : i < k
      · rw [if_pos h2, if_pos (by omega)]
      · rw [if_neg h2, if_neg (by omega)]
  · rw [List.getElem?_eq_none (by rw [List.length_set, f.rowsTo_len]; omega), List.getElem?_eq_none (by rw [f.rowsTo_len]; omega)]
theorem Fun.rowsTo_same (f : Fun) {k : Nat} (h : f.gv k = .nilsl) : f.rowsTo (k + 1) = f.rowsTo k := by
  unfold Fun.rowsTo
  refine List.map_congr_left fun j _ => ?_
  by_cases e : j = k
  · subst e; rw [if_pos (by omega), if_neg (by omega), h]
  · by_cases h2 : j < k
    · rw [if_pos h2, if_pos (by omega)]
    · rw [if_neg h2, if_neg (by omega)]
theorem Fun.gv_of {f : Fun} {k : Nat} {b : Blk} (h : f.blks[k]? = some b) : f.gv k = b.gvB := by unfold Fun.gv; rw [h]
def Fun.gout (f : Fun) : List (List Int) := f.blks.map Blk.gout
def Fun.goutV (f : Fun) : AV := .fsl 1 (els (fun b : Blk => [b.gvB]) f.blks)
theorem Fun.gout_gr (f : Fun) : GrV f.goutV f.gout := by
  refine .inr ⟨f.blks.map Blk.gvB, by simp [Fun.goutV, els], by simp [Fun.gout], fun k w l hw hl => ?_⟩
  unfold Fun.gout at hl
  rw [List.getElem?_map] at hw hl
  cases hb : f.blks[k]? with
  | none => rw [hb] at hw; cases hw
  | some b => rw [hb] at hw hl; cases hw; cases hl; exact b.gS
theorem Fun.rowsTo_all (f : Fun) {S : St} {o : Nat} (h : S.obj o = some (.row 1 (f.rowsTo f.blks.length))) (m : Nat) : pict S [] (m + 3) (.sl 1 o 0 f.blks.length) = some f.goutV := by
  refine pict_row (m := m + 2) h (f.rowsTo_len _) (by simp) fun k e he => ?_
  have hk : k < f.blks.length := by rw [← f.rowsTo_len f.blks.length]; exact (List.getElem?_eq_some_iff.1 he).1
  rw [f.rowsTo_at hk, if_pos hk] at he
  have hb := List.getElem?_eq_getElem hk
  rw [Fun.gv_of hb] at he
  cases he
  have hst : f.blks[k].gvB.stab = true := f.blks[k].gS.stab
  simp [mapOpt, pict_stab hst, els, hk]
theorem graph_Of (f : Fun) (hf : f.blks.length ≤ 64) (ho : ∀ b ∈ f.blks, b.out.length < 2 ^ 20) : Ret P g false 57 [encFun f] (encG (cleanG f.gout)) := by
  refine Ret.in c57 (by simp) ?_
  have hroom : f.blks.length ≤ room := by simp [room]; omega
  simp [k57, f.blksS.len, hroom]
  refine W.whileI (fun (k : Nat) F S => k ≤ f.blks.length ∧ F 3 = .sl 1 1 0 f.blks.length ∧ F 11 = f.blksV ∧ F 12 = .int .i64 f.blks.length ∧ F 13 = .int .i64 k ∧ 2 ≤ S.next ∧ S.obj 1 = some (.row 1 (f.rowsTo k))) (fun k => f.blks.length - k) ?_ 0 _ _ ?_
  · rintro k F S ⟨hk, f3, f11, f12, f13, hn, h1⟩
    by_cases hlt : k < f.blks.length
    · obtain ⟨b, hb⟩ : ∃ b, f.blks[k]? = some b := ⟨_, List.getElem?_eq_getElem hlt⟩
      have e4 := wrapS k (by omega)
      have z1 : ¬ 1 = S.next := by omega
      have hgv := Fun.gv_of hb
      have hat := f.rowsTo_at (k := k) hlt
      simp [f12, f13, hlt]
      simp [f11, f13, f.blksS.idx hb]
      cases hon : b.on
      · have hg : b.gvB = .nilsl := by unfold Blk.gvB; rw [hon]; rfl
        simp [f3, f11, f12, f13, e4]
        exact ⟨k + 1, by omega, by omega, by omega, by omega, by rw [f.rowsTo_same (by rw [hgv, hg])]; simp [z1, h1]⟩
      · have hg : b.gvB = b.outV := by unfold Blk.gvB; rw [hon]; rfl
        have hst := f.rowsTo_set hlt
        rw [hgv, hg] at hst
        simp [f3, f11, f12, f13, e4, ix_sl hlt, z1, h1, hat, b.outS.cells]
        exact ⟨k + 1, by omega, by omega, by omega, by omega, by rw [hst]⟩
    · have : k = f.blks.length := by omega
      subst this
      simp [f12, f13, f3]
      have hp := f.rowsTo_all h1
      refine (graph_Clean f.gout_gr (by simp [Fun.gout]; omega) (fun l hl => ?_)).use (n := 9) (by simp [mapOpt, hp 6]) rfl ?_
      · unfold Fun.gout at hl
        obtain ⟨b, hb, rfl⟩ := List.mem_map.1 hl
        have := ho b hb
        unfold Blk.gout
        split
        · omega
        · simp
      simp
      exact RK.stab rfl
  · simp
    exact f.rowsTo_zero.symm
end Go.Proofs.YtchkknkjhiaooaaGreatDoor.Vm
namespace Go.Proofs.YtchkknkjhiaooaaGreatDoor.Vm
open Go Go.RowKit
variable {N : Nat} {g : Glob}
def Tells (n : Nat) (l : List Int) (e : Env) : Prop := l.length = n ∧ ∃ m, e = some m ∧ m.length = n ∧ okL m ∧ ∀ (k : Nat) u v, l[k]? = some u → m[k]? = some v → (-2147483648 ≤ u ∧ u ≤ 2147483647) ∧ (⟨1, u⟩ : Val).le v
theorem Tells.le {n : Nat} {l : List Int} {e e' : Env} (h : Tells n l e) (he : e'.fit n) (hle : e.le e') : Tells n l e' := by
  obtain ⟨h1, m, rfl, h2, h3, h4⟩ := h
  obtain ⟨m', rfl, h5⟩ := hle m rfl
  obtain ⟨g1, g2⟩ := he m' rfl
  refine ⟨h1, m', rfl, g1, g2, fun k u v hu hv => ?_⟩
  have hk := (List.getElem?_eq_some_iff.1 hu).1
  obtain ⟨z, hz⟩ : ∃ z, m[k]? = some z := ⟨_, List.getElem?_eq_getElem (by omega)⟩
  obtain ⟨q1, q2⟩ := h4 k u z hu hz
  exact ⟨q1, Val.le_trans (h3 z (List.mem_of_getElem? hz)) q2 (h5 k z v hz hv)⟩
theorem one_ok {u : Int} (h : -2147483648 ≤ u ∧ u ≤ 2147483647) : (⟨1, u⟩ : Val).ok = true := by simp [Val.ok, h]
theorem Tells.leq {n : Nat} {l : List Int} {e : Env} (h : Tells n l e) (k : Nat) (u : Int) (hu : l[k]? = some u) : (⟨1, wrap32 u⟩ : Val).leq (e.get k) = true := by
  obtain ⟨h1, m, rfl, h2, h3, h4⟩ := h
  have hk := (List.getElem?_eq_some_iff.1 hu).1
  obtain ⟨z, hz⟩ : ∃ z, m[k]? = some z := ⟨_, List.getElem?_eq_getElem (by omega)⟩
  obtain ⟨q1, q2⟩ := h4 k u z hu hz
  have : Env.get (some m) k = z := getL_of h3 hz
  rw [this, wrap32_of q1, Val.leq_iff (one_ok q1) (h3 z (List.mem_of_getElem? hz))]
  exact q2
theorem Tells.isSome {n : Nat} {l : List Int} {e : Env} (h : Tells n l e) : e.isSome = true := by
  obtain ⟨_, m, rfl, _⟩ := h; rfl
theorem Tells.get {n : Nat} {l : List Int} {e : Env} (h : Tells n l e) {a : Int} (ha : 0 ≤ a ∧ a < n) : ∃ u, l.getD a.toNat 0 = u ∧ (-2147483648 ≤ u ∧ u ≤ 2147483647) ∧ (⟨1, u⟩ : Val).le (e.get a) ∧ (e.get a).ok = true := by
  obtain ⟨h1, m, rfl, h2, h3, h4⟩ := h
  obtain ⟨k, rfl⟩ : ∃ k : Nat, a = (k : Int) := ⟨a.toNat, by omega⟩
  obtain ⟨u, hu⟩ : ∃ z, l[k]? = some z := ⟨_, List.getElem?_eq_getElem (by omega)⟩
  obtain ⟨z, hz⟩ : ∃ z, m[k]? = some z := ⟨_, List.getElem?_eq_getElem (by omega)⟩
  obtain ⟨q1, q2⟩ := h4 k u z hu hz
  refine ⟨u, by simp [List.getD_eq_getElem?_getD, hu], q1, ?_, Env.get_ok _ _⟩
  have : Env.get (some m) k = z := getL_of h3 hz
  rw [this]; exact q2
theorem one_le_of {u : Int} {v : Val} (hv : v.ok = true) (h : (⟨1, u⟩ : Val).le v) : v = ⟨2, 0⟩ ∨ v = ⟨1, u⟩ := by
  rcases h with h | h | h
  · cases h
  · exact .inl (Val.ok_top hv h)
  · exact .inr h.symm
theorem each_tells {op : Int → Int → Int} {u v : Int} {a b : Val} (hu : -2147483648 ≤ u ∧ u ≤ 2147483647) (hv : -2147483648 ≤ v ∧ v ≤ 2147483647) (ha : a.ok = true) (hb : b.ok = true) (h1 : (⟨1, u⟩ : Val).le a) (h2 : (⟨1, v⟩ : Val).le b) : (⟨1, wrap32 (op u v)⟩ : Val).le (a.each op b) := by
  rw [Val.each_of ha hb]
  rcases one_le_of ha h1 with rfl | rfl <;> rcases one_le_of hb h2 with rfl | rfl <;> simp
  all_goals first | exact .inr (.inl rfl) | exact Val.le_refl _
theorem Tells.step {n : Nat} {l : List Int} {e : Env} (h : Tells n l e) {x : Ins} {w : Int} (hc : -2147483648 ≤ x.c ∧ x.c ≤ 2147483647) (hd : x.def < 0 ∨ (0 ≤ x.def ∧ x.def < n ∧ 0 ≤ x.a ∧ x.a < n ∧ 0 ≤ x.b ∧ x.b < n)) : Tells n (stepL l x w) (x.flat e) := by
  have hfit : e.fit n := by
    obtain ⟨_, m, rfl, h2, h3, _⟩ := h
    exact Env.fit_some h2 h3
  rcases hd with hd | ⟨hd0, hdl, ha0, hal, hb0, hbl⟩
  · rw [flat_same hfit hd]
    unfold stepL
    rw [if_pos hd]; exact h
  · have hval : (-2147483648 ≤ stepV l x w ∧ stepV l x w ≤ 2147483647) ∧ (⟨1, stepV l x w⟩ : Val).le (x.number e) := by
      obtain ⟨ua, ga, ra, la, oa⟩ := h.get ⟨ha0, hal⟩
      obtain ⟨ub, gb, rb, lb, ob⟩ := h.get ⟨hb0, hbl⟩
      unfold stepV Ins.number
      rw [ga, gb]
      by_cases k0 : x.kind = 0
      · simp only [k0, if_true]
        exact ⟨hc, by rw [wrap32_of hc]; exact Val.le_refl _⟩
      by_cases k1 : x.kind = 1
      · simp only [k0, k1, if_true, if_false]
        exact ⟨ra, la⟩
      by_cases k2 : x.kind = 2
      · simp only [k0, k1, k2, if_true, if_false]
        refine ⟨wrap32_in _, ?_⟩
        have z : wrap32 0 = 0 := rfl
        rw [z]
        exact each_tells (op := i64sub) (u := 0) (by omega) ra rfl oa (Val.le_refl _) la
      by_cases k3 : x.kind = 3
      · simp only [k0, k1, k2, k3, if_true, if_false]
        exact ⟨wrap32_in _, each_tells ra rb oa ob la lb⟩
      by_cases k4 : x.kind = 4
      · simp only [k0, k1, k2, k3, k4, if_true, if_false]
        exact ⟨wrap32_in _, each_tells ra rb oa ob la lb⟩
      by_cases k5 : x.kind = 5
      · simp only [k0, k1, k2, k3, k4, k5, if_true, if_false]
        exact ⟨wrap32_in _, each_tells ra rb oa ob la lb⟩
      simp only [k0, k1, k2, k3, k4, k5, if_false]
      exact ⟨wrap32_in _, .inr (.inl rfl)⟩
    obtain ⟨h1, m, rfl, h2, h3, h4⟩ := h
    have hnum := x.number_ok (some m)
    unfold Ins.flat
    rw [Env.set_of hfit _ hnum, if_pos ⟨hd0, hdl⟩]
    unfold stepL
    rw [if_neg (by omega)]
    refine ⟨by simp [h1], _, rfl, by simp [h2], fun v hv => ?_, fun k u v hu hv => ?_⟩
    · rcases List.mem_or_eq_of_mem_set hv with hv | rfl
      · exact h3 v hv
      · exact hnum
    · by_cases hk : k = x.def.toNat
      · subst hk
        rw [List.getElem?_set_self (by omega)] at hu hv
        cases hu; cases hv
        exact hval
      · rw [List.getElem?_set_ne (Ne.symm hk)] at hu hv
        exact h4 k u v hu hv
end Go.Proofs.YtchkknkjhiaooaaGreatDoor.Vm
namespace Go.Proofs.YtchkknkjhiaooaaGreatDoor.Vm
open Go Go.RowKit
variable {N : Nat} {g : Glob}
theorem fold_ge {n : Nat} {h : Int → Env} (hh : ∀ j, (h j).fit n) (m : List Int) : ∀ {e : Env}, e.fit n → e.le (m.foldl (fun e j => e.join (h j)) e) ∧ ∀ j ∈ m, (h j).le (m.foldl (fun e j => e.join (h j)) e) := by
  induction m with
  | nil => intro e he; exact ⟨Env.le_refl e, fun j hj => by cases hj⟩
  | cons j m ih =>
    intro e he
    have hj := Env.join_fit he (hh j)
    obtain ⟨h1, h2⟩ := ih hj
    have hf := fold_fit hh m hj
    refine ⟨Env.le_trans hj hf (Env.le_join_l he (hh j)) h1 he, fun k hk => ?_⟩
    rcases List.mem_cons.1 hk with rfl | hk
    · exact Env.le_trans hj hf (Env.le_join_r he (hh k)) h1 (hh k)
    · exact h2 k hk
theorem pred_le {f : Fun} {b j : Nat} {B : Blk} (hB : f.blks[b]? = some B) (hj : (j : Int) ∈ B.out) (hjl : j < f.blks.length) : (f.cat b B.ins.length).le (f.cin.getD j Option.none) := by
  rw [cin_fix hjl, cat_all hB]
  have hm : (b : Int) ∈ f.preds j := Fun.preds_mem.2 ⟨b, B, rfl, hB, hj⟩
  have := (fold_ge (n := f.wid) (h := fun j => pastL (f.cin.getD j.toNat Option.none) (f.code j.toNat)) (fun j => pastL_fit (f.cin_fit _)) (f.preds j) (f.cev_first j)).2 _ hm
  exact this
theorem start_le {f : Fun} (h : 0 < f.blks.length) : f.start.le (f.cin.getD 0 Option.none) := by
  rw [cin_fix h]
  have := (fold_ge (n := f.wid) (h := fun j => pastL (f.cin.getD j.toNat Option.none) (f.code j.toNat)) (fun j => pastL_fit (f.cin_fit _)) (f.preds (0 : Nat)) (f.cev_first 0)).1
  exact this
theorem once_mem {v : Int} : ∀ (l out : List Int), v ∈ out ∨ v ∈ l → v ∈ l.foldl addOnce out
  | [], out, h => by simpa using h
  | x :: l, out, h => by
    refine once_mem l (addOnce out x) ?_
    rcases h with h | h
    · left; unfold addOnce; split
      · exact h
      · exact List.mem_append_left _ h
    · rcases List.mem_cons.1 h with rfl | h
      · left; unfold addOnce; split
        · assumption
        · simp
      · exact .inr h
theorem ins_ab {p : Prg} {f : Fun} {x : Ins} (hok : FunOK p f) (h : p.insOK f x = true) : (-2147483648 ≤ x.c ∧ x.c ≤ 2147483647) ∧ (x.def < 0 ∨ (0 ≤ x.def ∧ x.def < (f.wid : Int) ∧ 0 ≤ x.a ∧ x.a < (f.wid : Int) ∧ 0 ≤ x.b ∧ x.b < (f.wid : Int))) := by
  obtain ⟨hu, hd⟩ := ins_vars h
  have h' := h
  simp only [Prg.insOK, Bool.and_eq_true] at h'
  have hox := h'.1.1
  have hp : x.okP := by simpa [Ins.ok] using hox
  obtain ⟨_, _, _, _, _, hc1, hc2, _, ha, hb, _, _, _, _, hbare⟩ := hp
  refine ⟨⟨hc1, hc2⟩, ?_⟩
  rw [hok.wid]
  rcases hd with hd | ⟨hd0, hdl⟩
  · left; omega
  · right
    have all : ∀ v ∈ x.all, v < f.vars := fun v hv => (hu v (by unfold Ins.uses; rw [if_pos hox]; exact once_mem _ _ (.inr hv))).2
    have ha' : x.a < f.vars := by
      cases hk : khas x.kind 97
      · have : x.bare.a = 0 := by rw [hbare]; rfl
        simp [Ins.bare, hk] at this
        omega
      · exact all _ (by unfold Ins.all; rw [hk]; simp)
    have hb' : x.b < f.vars := by
      cases hk : khas x.kind 98
      · have : x.bare.b = 0 := by rw [hbare]; rfl
        simp [Ins.bare, hk] at this
        omega
      · exact all _ (by unfold Ins.all; rw [hk]; simp)
    exact ⟨hd0, hdl, ha, ha', hb, hb'⟩
def IV (S : St) (v : AV) (l : List Int) : Prop := FSl intc 1 v l ∨ (Has intc 1 S v l ∧ Bel S v)
theorem IV.pict {S : St} {v : AV} {l : List Int} (h : IV S v l) : ∃ w, FSl intc 1 w l ∧ ∀ n, Vm.pict S [] (n + 2) v = some w := by
  rcases h with h | ⟨h, _⟩
  · exact ⟨v, h, fun n => pict_stab h.stab⟩
  · exact ⟨_, encF_sl, fun n => h.pict⟩
theorem IV.keep {S S' : St} {v : AV} {l : List Int} (h : IV S v l) (hn : S.next ≤ S'.next) (hk : ∀ q, q < S.next → S'.obj q = S.obj q) : IV S' v l := by
  rcases h with h | ⟨h, hb⟩
  · exact .inl h
  · exact .inr ⟨h.keep fun q ⟨len, hq⟩ => hk q (hb _ _ _ hq), hb.mono hn⟩
def beginL (par : Int) (w : List Int) (n : Nat) : List Int := (List.range n).map fun v : Nat => if (v : Int) < par ∧ v < w.length then wrap32 (w.getD v 0) else 0
theorem begin_tells (f : Fun) (w : List Int) : Tells f.wid (beginL f.par w f.wid) f.start := by
  refine ⟨by simp [beginL], startL f.par f.vars, rfl, startL_len _ _, startL_ok _ _, fun k u v hu hv => ?_⟩
  have hk : k < f.wid := by have := (List.getElem?_eq_some_iff.1 hu).1; simpa [beginL] using this
  have hv' : v = if (k : Int) < f.par then ⟨2, 0⟩ else ⟨1, 0⟩ := by
    simp [startL, show k < capN f.vars from hk] at hv
    exact hv.symm
  have hu' : u = if (k : Int) < f.par ∧ k < w.length then wrap32 (w.getD k 0) else 0 := by
    simp [beginL, hk] at hu
    rw [← hu]; simp
  by_cases hp : (k : Int) < f.par
  · rw [if_pos hp] at hv'
    subst hv'
    refine ⟨?_, .inr (.inl rfl)⟩
    rw [hu']
    split
    · exact wrap32_in _
    · omega
  · rw [if_neg hp] at hv'
    rw [if_neg fun h => hp h.1] at hu'
    subst hv'; subst hu'
    exact ⟨by omega, Val.le_refl _⟩
end Go.Proofs.YtchkknkjhiaooaaGreatDoor.Vm
namespace Go.Proofs.YtchkknkjhiaooaaGreatDoor.Vm
open Go Go.RowKit
variable {N : Nat} {g : Glob}
def Fun.Way (f : Fun) (b : Nat) : Prop := Rch (cleanG (cleanG f.gout)) 0 b
theorem gout_len (f : Fun) : (cleanG f.gout).length = f.blks.length := by simp [cleanG, Fun.gout]
theorem gout_at {f : Fun} {a : Nat} {x : Blk} (hx : f.blks[a]? = some x) : (cleanG (cleanG f.gout))[a]? = some (cleanL (cleanG f.gout).length (cleanL f.gout.length x.gout)) := by
  have h1 : f.gout[a]? = some x.gout := by unfold Fun.gout; rw [List.getElem?_map, hx]; rfl
  have h2 : (cleanG f.gout)[a]? = some (cleanL f.gout.length x.gout) := by unfold cleanG; rw [List.getElem?_map, h1]; rfl
  generalize cleanG f.gout = C at h2 ⊢
  unfold cleanG; rw [List.getElem?_map, h2]; rfl
theorem gout_mem {f : Fun} {b : Nat} {x : Blk} : (b : Int) ∈ cleanL (cleanG f.gout).length (cleanL f.gout.length x.gout) ↔ (b : Int) ∈ x.gout ∧ b < f.blks.length := by
  have h : f.gout.length = f.blks.length := by simp [Fun.gout]
  rw [cleanL_mem, cleanL_mem, gout_len, h]
  constructor
  · rintro ⟨⟨h1, _, h2⟩, _⟩; exact ⟨h1, by omega⟩
  · rintro ⟨h1, h2⟩; exact ⟨⟨h1, by omega, by omega⟩, by omega, by omega⟩
theorem gout_step {f : Fun} {a b : Nat} {l : List Int} (hl : (cleanG (cleanG f.gout))[a]? = some l) (hb : (b : Int) ∈ l) : ∃ x, f.blks[a]? = some x ∧ (b : Int) ∈ x.out ∧ b < f.blks.length := by
  cases hx : f.blks[a]? with
  | none =>
    have h1 : a < (cleanG (cleanG f.gout)).length := (List.getElem?_eq_some_iff.1 hl).1
    have h2 : (cleanG (cleanG f.gout)).length = f.blks.length := by simp [cleanG, Fun.gout]
    rw [List.getElem?_eq_none_iff] at hx
    omega
  | some x =>
    rw [gout_at hx] at hl
    cases hl
    obtain ⟨h1, h2⟩ := gout_mem.1 hb
    refine ⟨x, rfl, ?_, h2⟩
    unfold Blk.gout at h1
    split at h1
    · exact h1
    · cases h1
theorem gout_edge {f : Fun} {a b : Nat} {x : Blk} (hx : f.blks[a]? = some x) (hon : x.on = true) (hb : (b : Int) ∈ x.out) (hbl : b < f.blks.length) : ∃ l, (cleanG (cleanG f.gout))[a]? = some l ∧ (b : Int) ∈ l :=
  ⟨_, gout_at hx, gout_mem.2 ⟨by unfold Blk.gout; rw [if_pos hon]; exact hb, hbl⟩⟩
theorem past_tells {p : Prg} {f : Fun} (hok : FunOK p f) : ∀ (c : List Ins) {l : List Int} {e : Env}, (∀ x ∈ c, p.insOK f x = true) → Tells f.wid l e → ∃ l', Tells f.wid l' (pastL e c)
  | [], l, e, _, h => ⟨l, h⟩
  | x :: c, l, e, hc, h => by
    obtain ⟨h1, h2⟩ := ins_ab hok (hc x (by simp))
    exact past_tells hok c (fun y hy => hc y (by simp [hy])) (h.step (w := 0) h1 h2)
theorem way_tells {p : Prg} {f : Fun} (hok : FunOK p f) {b : Nat} (h : f.Way b) : ∃ l, Tells f.wid l (f.cin.getD b Option.none) := by
  unfold Fun.Way at h
  induction h with
  | base => exact ⟨_, (begin_tells f []).le (f.cin_fit 0) (start_le hok.len.1)⟩
  | step _ hl hb ih =>
    obtain ⟨l, hl'⟩ := ih
    obtain ⟨x, hx, hbx, hbl⟩ := gout_step hl hb
    obtain ⟨l', h'⟩ := past_tells hok x.ins (hok.blk (List.mem_of_getElem? hx)).2.2.2.2 hl'
    refine ⟨l', h'.le (f.cin_fit _) ?_⟩
    have := pred_le hx hbx hbl
    rw [cat_all hx, code_at hx] at this
    exact this
theorem past_none : ∀ l : List Ins, pastL Option.none l = Option.none
  | [] => rfl
  | x :: l => by
    show pastL (x.flat Option.none) l = Option.none
    rw [show x.flat Option.none = Option.none from rfl]
    exact past_none l
theorem fold_none : ∀ m : List Int, m.foldl (fun (e : Env) (_ : Int) => e.join Option.none) (Option.none : Env) = Option.none
  | [] => rfl
  | _ :: m => by
    rw [List.foldl_cons]
    exact fold_none m
noncomputable def Fun.onY (f : Fun) : List Env := open Classical in (List.range f.blks.length).map fun i => if f.Way i then f.cin.getD i Option.none else Option.none
theorem Fun.onY_at {f : Fun} {i : Nat} (h : i < f.blks.length) : (open Classical in f.onY.getD i Option.none = if f.Way i then f.cin.getD i Option.none else Option.none) := by
  rw [List.getD_eq_getElem?_getD, Fun.onY, List.getElem?_map, List.getElem?_range h]
  rfl
theorem off_none {p : Prg} {f : Fun} (hok : FunOK p f) {b : Nat} (hb : b < f.blks.length) (h : ¬ f.Way b) : f.cin.getD b Option.none = Option.none := by
  have hl : f.onY.length = f.blks.length := by simp [Fun.onY]
  have hfit : ∀ e ∈ f.onY, Env.fit f.wid e := fun e he => by
    unfold Fun.onY at he
    obtain ⟨i, _, rfl⟩ := List.mem_map.1 he
    split
    · exact f.cin_fit i
    · exact Env.fit_none _
  have hle : ∀ (k : Nat) a b, f.onY[k]? = some a → f.cin[k]? = some b → Env.le a b := fun k a b ha hb => by
    have hk : k < f.blks.length := by rw [← hl]; exact (List.getElem?_eq_some_iff.1 ha).1
    have h1 := Fun.onY_at hk
    rw [List.getD_eq_getElem?_getD, ha, List.getD_eq_getElem?_getD, hb] at h1
    simp only [Option.getD_some] at h1
    rw [h1]
    split
    · exact Env.le_refl _
    · exact Env.le_none _
  have post : f.csys.Post f.onY := by
    refine ⟨⟨hl, hfit⟩, fun i a ha => ?_⟩
    have hi : i < f.blks.length := by rw [← hl]; exact (List.getElem?_eq_some_iff.1 ha).1
    have h1 := Fun.onY_at hi
    rw [List.getD_eq_getElem?_getD, ha] at h1
    simp only [Option.getD_some] at h1
    rw [h1]
    by_cases hw : f.Way i
    · rw [if_pos hw]
      have := f.csys.mono f.onY f.cin i hl f.cin_len hfit f.cin_least.fit.ok hle hi
      have e : f.csys.ev f.cin i = f.cin.getD i Option.none := (cin_fix hi).symm
      rw [e] at this
      exact this
    · rw [if_neg hw]
      have e : f.csys.ev f.onY i = Option.none := by
        show f.cev f.onY i = Option.none
        unfold Fun.cev Fun.cevTo
        have hi0 : ¬ i = 0 := fun e => hw (e ▸ Rch.base)
        rw [if_neg hi0, fold_same (h' := fun _ => Option.none) _ _ fun j hj => ?_]
        · exact fold_none _
        · obtain ⟨k, x, rfl, hx, hxi⟩ := Fun.preds_mem.1 hj
          have hk : k < f.blks.length := (List.getElem?_eq_some_iff.1 hx).1
          have hon : x.on = true := by
            cases hon : x.on
            · have := ((hok.blk (List.mem_of_getElem? hx)).1 hon).2
              rw [this] at hxi; cases hxi
            · rfl
          have hnk : ¬ f.Way k := fun hk' => by
            obtain ⟨l, hl1, hl2⟩ := gout_edge hx hon hxi hi
            exact hw (Rch.step hk' hl1 hl2)
          rw [Int.toNat_natCast, Fun.onY_at hk, if_neg hnk]
          exact past_none _
      rw [e]
      exact Env.le_none _
  have hcl : b < f.cin.length := by rw [f.cin_len]; exact hb
  have h2 := f.cin_least.low f.onY post b f.cin[b] (f.onY[b]'(by omega)) (List.getElem?_eq_getElem _) (List.getElem?_eq_getElem _)
  have h1 := Fun.onY_at hb
  rw [if_neg h, List.getD_eq_getElem?_getD, List.getElem?_eq_getElem (by omega)] at h1
  simp only [Option.getD_some] at h1
  rw [h1] at h2
  rw [List.getD_eq_getElem?_getD, List.getElem?_eq_getElem hcl]
  show f.cin[b] = Option.none
  cases hc : f.cin[b] with
  | none => rfl
  | some l =>
    rw [hc] at h2
    obtain ⟨m, hm, _⟩ := h2 l rfl
    cases hm
theorem way_on {p : Prg} {f : Fun} (hok : FunOK p f) {b : Nat} {B : Blk} (hB : f.blks[b]? = some B) (h : f.Way b) : ∃ l0 l, f.cin.getD b Option.none = some l0 ∧ f.cat b B.ins.length = some l ∧ (l.length : Int) = f.vars ∧ ∀ v ∈ l, v.k ≠ 0 := by
  obtain ⟨l, hl⟩ := way_tells hok h
  obtain ⟨l', hl'⟩ := past_tells hok B.ins (hok.blk (List.mem_of_getElem? hB)).2.2.2.2 hl
  have hc : f.cat b B.ins.length = pastL (f.cin.getD b Option.none) B.ins := by rw [cat_all hB, code_at hB]
  rw [← hc] at hl'
  obtain ⟨_, m0, h0, _⟩ := hl
  obtain ⟨hll, m, hm, hml, _, hv⟩ := hl'
  refine ⟨m0, m, h0, hm, by rw [hml, hok.wid], fun v hvm hk => ?_⟩
  obtain ⟨k, hk'⟩ := List.mem_iff_getElem?.1 hvm
  have hkl := (List.getElem?_eq_some_iff.1 hk').1
  obtain ⟨_, hle⟩ := hv k (l'[k]'(by omega)) v (List.getElem?_eq_getElem _) hk'
  rcases hle with h1 | h1 | h1
  · cases h1
  · rw [hk] at h1; cases h1
  · rw [← h1] at hk; cases hk
theorem way_blk {p : Prg} {f : Fun} (hok : FunOK p f) {b : Nat} {B : Blk} (hB : f.blks[b]? = some B) (h : f.Way b) : B.on = true := by
  unfold Fun.Way at h
  cases h with
  | base =>
    have := hok.blks.2.2.1
    unfold Fun.onAt at this
    rw [hB] at this
    exact this
  | step _ hl hb =>
    obtain ⟨x, hx, hbx, hbl⟩ := gout_step hl hb
    obtain ⟨_, _, y, hy, hon⟩ := live_lt ((hok.blk (List.mem_of_getElem? hx)).2.2.1 _ hbx)
    rw [Int.toNat_natCast, hB] at hy
    cases hy; exact hon
end Go.Proofs.YtchkknkjhiaooaaGreatDoor.Vm
namespace Go.Proofs.YtchkknkjhiaooaaGreatDoor.Vm
open Go Go.RowKit
variable {N : Nat} {g : Glob}
structure LrI (p : Prg) (i : Int) (r : List Bool) (x : List Env) (F : AFrame) (S : St) : Prop where
  f1 : F 1 = .int .i64 i
  f2 : F 2 = .ptr 0 0 0
  f5 : F 5 = .bool true
  f6 : F 6 = .fsl 1 (els boolc r)
  f7 : F 7 = .fsl 2 (els envc x)
  s0 : S.obj 0 = some (.row 1 [[p.funsV]])
  n : 0 < S.next
theorem LrI.up {p : Prg} {i : Int} {r : List Bool} {x : List Env} {F F' : AFrame} {S S' : St} (h : LrI p i r x F S) (h1 : F' 1 = F 1) (h2 : F' 2 = F 2) (h5 : F' 5 = F 5) (h6 : F' 6 = F 6) (h7 : F' 7 = F 7) (h0 : S'.obj 0 = S.obj 0) (hn : S.next ≤ S'.next) : LrI p i r x F' S' :=
  ⟨by rw [h1]; exact h.f1, by rw [h2]; exact h.f2, by rw [h5]; exact h.f5, by rw [h6]; exact h.f6, by rw [h7]; exact h.f7, by rw [h0]; exact h.s0, by have := h.n; omega⟩
set_option maxHeartbeats 1000000 in
theorem law_ConstsReached (p : Prg) (i : Int) : Ret P (gl N) false 11 [encP p, .int .i64 i] (.bool true) := by
  refine Ret.in c11 (by simp) ?_
  simp [k11]
  refine (awake20_ret).use (n := 9) (by rfl) rfl ?_
  simp
  refine (ref06_Few p).use (n := 9) (by simp [mapOpt, pict_stab p.funsS.stab]) (by simp [solids, AV.solid, p.funsS.solid]) ?_
  cases hfew : p.few
  · simp
    exact RK.eq rfl rfl
  have hp := Prg.few_fit hfew
  simp
  refine (prog_Sane p hp).use (n := 9) (by simp [mapOpt, pict_stab p.funsS.stab]) (by simp [solids, AV.solid, p.funsS.solid]) ?_
  cases hsane : p.sane
  · simp
    exact RK.eq rfl rfl
  simp
  refine gua_decF (fun h1 => ?_) (fun h1 => ?_) <;> simp [h1, p.funsS.len]
  · refine bra_dec (fun h2 => ?_) (fun h2 => ?_) <;> simp [h2]
    · exact RK.eq rfl rfl
    obtain ⟨nI, rfl⟩ : ∃ n : Nat, i = (n : Int) := ⟨i.toNat, by omega⟩
    obtain ⟨f, hfi⟩ : ∃ f, p.funs[nI]? = some f := ⟨_, List.getElem?_eq_getElem (by omega)⟩
    have hf : p.fn (nI : Int) = some f := by
      unfold Prg.fn
      rw [if_pos ⟨by omega, hsane⟩]; exact hfi
    have hok := fn_ok hf
    have hl := hok.len
    have hsm := fn_fit hp hf
    simp [p.funsS.idx hfi]
    refine (graph_Of f (by omega) (fun b hb => by have := (hok.out b hb).1; omega)).use (n := 9) (by simp [mapOpt, pict_stab f.blksS.stab]) (by simp [solids, AV.solid, f.blksS.solid]) ?_
    simp
    have hgl : (cleanG f.gout).length = f.blks.length := by simp [cleanG, Fun.gout]
    refine (graph_Reach (encG_gr (cleanG f.gout)) (by omega) (fun l hl => ?_) 0 (by omega)).use (n := 9) (by rfl) rfl ?_
    · unfold cleanG at hl
      obtain ⟨m, hm, rfl⟩ := List.mem_map.1 hl
      have h3 := cleanL_len f.gout.length m
      unfold Fun.gout at hm
      obtain ⟨b, hb, rfl⟩ := List.mem_map.1 hm
      have := (hok.out b hb).1
      have h4 : b.gout.length ≤ b.out.length := by
        unfold Blk.gout
        split <;> simp
      omega
    simp
    refine (consts_In_some p nI hp hf).use (n := 9) (by simp [mapOpt, pict_stab p.funsS.stab]) (by simp [solids, AV.solid, p.funsS.solid]) ?_
    rw [hgl]
    have hrl : (marks f.blks.length f.Way).length = f.blks.length := by simp [marks]
    have hra : ∀ b, b < f.blks.length → (marks f.blks.length f.Way)[b]? = some (open Classical in decide (f.Way b)) := fun b hb => by simp [marks, hb]
    have hrw : marks f.blks.length (Rch (cleanG (cleanG f.gout)) 0) = marks f.blks.length f.Way := rfl
    rw [hrw]
    have hxl := f.cin_len
    generalize marks f.blks.length f.Way = r at *
    simp [hrl, hxl, p.funsS.idx hfi, f.blksS.len]
    refine W.whileI (fun (b : Nat) F S => b ≤ f.blks.length ∧ F 8 = .int .i64 b ∧ LrI p nI r f.cin F S) (fun b => f.blks.length - b) ?_ 0 _ _ ?_
    · rintro b F S ⟨hb, f8, hI⟩
      have f1 := hI.f1
      have f2 := hI.f2
      have f5 := hI.f5
      have f6 := hI.f6
      have f7 := hI.f7
      have s0 := hI.s0
      simp [f7, f8, hxl]
      by_cases hlt : b < f.blks.length
      · have e4 := wrapS b (by omega)
        obtain ⟨B, hB⟩ : ∃ B, f.blks[b]? = some B := ⟨_, List.getElem?_eq_getElem hlt⟩
        have z0 : ¬ 0 = S.next := by have := hI.n; omega
        have hrb := hra b hlt
        have hcl : b < f.cin.length := by omega
        have hxb : f.cin[b]? = some (f.cin.getD b Option.none) := by rw [List.getD_eq_getElem?_getD, List.getElem?_eq_getElem hcl]; rfl
        simp [hlt]
        refine Dra.auto [] mix ?_ ?_
        · kernel_rfl
        simp [classes, f1, f2, f8, s0, p.funsS.idx hfi, f.blksS.idx hB, B.insS.len]
        refine (consts_At p nI b (B.ins.length : Nat) hp).b (n := 9) (by simp [mapOpt, pict_stab p.funsS.stab]) (by simp [solids, AV.solid, p.funsS.solid]) ?_
        have facts : (f.Way b ∧ ∃ l0 l, f.cin.getD b Option.none = some l0 ∧ p.cat nI b (B.ins.length : Nat) = some l ∧ (l.length : Int) = f.vars ∧ ∀ v ∈ l, v.k ≠ 0) ∨ (¬ f.Way b ∧ f.cin.getD b Option.none = Option.none ∧ p.cat nI b (B.ins.length : Nat) = Option.none) := by
          by_cases hw : f.Way b
          · left
            obtain ⟨l0, l, h1, h2, h3⟩ := way_on hok hB hw
            exact ⟨hw, l0, l, h1, by rw [cat_blk hf hB (way_blk hok hB hw) (Nat.le_refl _)]; exact h2, h3⟩
          · right
            have h1 := off_none hok hlt hw
            refine ⟨hw, h1, ?_⟩
            cases hon : B.on
            · have hlv : f.blk (b : Int) = none := by
                have : f.live (b : Int) = false := by simp [Fun.live, hB, hon]
                simp [Fun.blk, this]
              unfold Prg.cat
              rw [hf]
              simp [hlv]
            · rw [cat_blk hf hB hon (Nat.le_refl _), cat_all hB, h1]
              exact past_none _
        rcases facts with ⟨hw, l0, l, h1, h2, h3, h4⟩ | ⟨hw, h1, h2⟩
        · rw [h2]
          rw [h1] at hxb
          simp only [hw, decide_true] at hrb
          have hfs : FSl envc 2 (.fsl 2 (els envc f.cin)) f.cin := .inl rfl
          have hrS : FSl boolc 1 (.fsl 1 (els boolc r)) r := .inl rfl
          simp
          refine Dra.auto [] mix ?_ ?_
          · kernel_rfl
          simp [classes, f1, f2, f6, f7, f8, s0, z0, hfs.idx hxb, hrS.idx hrb, boolc, envc, p.funsS.idx hfi, h3]
          have hls : FSl valc 2 (.fsl 2 (els valc l)) l := .inl rfl
          refine W.whileI (fun (v : Nat) F' S' => v ≤ l.length ∧ F' 8 = .int .i64 b ∧ F' 9 = .ptr S.next 0 0 ∧ F' 10 = .int .i64 v ∧ LrI p nI r f.cin F' S' ∧ S'.obj S.next = some (.row 2 [[.bool true, .fsl 2 (els valc l)]])) (fun v => l.length - v) ?_ 0 _ _ ?_
          · rintro v F' S' ⟨hv, g8, g9, g10, hI', sN⟩
            simp [g9, g10, sN]
            by_cases hlv : v < l.length
            · obtain ⟨x, hx⟩ : ∃ x, l[v]? = some x := ⟨_, List.getElem?_eq_getElem hlv⟩
              have hxk := h4 x (List.mem_of_getElem? hx)
              have hw6 : f.vars ≤ 6 := hok.vars.2.2.2
              have e5 := wrapS v (by omega)
              simp [hlv, g9, g10, sN, hls.idx hx, valc, hxk]
              simp [g8, g9, g10, e5]
              exact ⟨v + 1, by omega, by omega, by omega, hI'.up rfl rfl rfl rfl rfl rfl (Nat.le_refl _)⟩
            · have : v = l.length := by omega
              subst this
              simp [g8, e4]
              exact ⟨b + 1, by omega, by omega, by omega, hI'.up rfl rfl rfl rfl rfl rfl (Nat.le_refl _)⟩
          · simp [f8]
            exact hI.up rfl rfl rfl rfl rfl (by simp [z0]) (by simp)
        · rw [h2]
          rw [h1] at hxb
          simp only [hw, decide_false] at hrb
          have hfs : FSl envc 2 (.fsl 2 (els envc f.cin)) f.cin := .inl rfl
          have hrS : FSl boolc 1 (.fsl 1 (els boolc r)) r := .inl rfl
          simp
          refine Dra.auto [] mix ?_ ?_
          · kernel_rfl
          simp [classes, f1, f2, f6, f7, f8, s0, z0, hfs.idx hxb, hrS.idx hrb, boolc, envc, p.funsS.idx hfi]
          refine W.whileI (fun (v : Nat) F' S' => F' 8 = .int .i64 b ∧ F' 9 = .ptr S.next 0 0 ∧ F' 10 = .int .i64 0 ∧ LrI p nI r f.cin F' S' ∧ S'.obj S.next = some (.row 2 [[.bool false, .nilsl]])) (fun v => v) ?_ 0 _ _ ?_
          · rintro v F' S' ⟨g8, g9, g10, hI', sN⟩
            simp [g9, g10, sN]
            simp [g8, e4]
            exact ⟨b + 1, by omega, by omega, by omega, hI'.up rfl rfl rfl rfl rfl rfl (Nat.le_refl _)⟩
          · simp [f8]
            exact hI.up rfl rfl rfl rfl rfl (by simp [z0]) (by simp)
      · have : b = f.blks.length := by omega
        subst this
        simp [f5]
        exact RK.eq rfl rfl
    · simp
      exact ⟨rfl, rfl, rfl, rfl, rfl, by simp, by simp⟩
  · exact RK.eq rfl rfl
end Go.Proofs.YtchkknkjhiaooaaGreatDoor.Vm
