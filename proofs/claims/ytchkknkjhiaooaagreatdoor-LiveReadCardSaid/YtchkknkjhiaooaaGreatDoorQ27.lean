/- A part of the proof: Rd Re Rf Rb Rg Rh Ri Rj Rl Rm. -/
import Derived.Test.YtchkknkjhiaooaaGreatDoorQ26
set_option linter.unusedVariables false
set_option linter.unusedSimpArgs false
set_option linter.constructorNameAsVariable false
namespace Go.Proofs.YtchkknkjhiaooaaGreatDoor.Vm
open Go Go.RowKit
variable {N : Nat} {g : Glob}
@[simp] theorem picts_envc {S : St} {n : Nat} (e : Env) : mapOpt (pict S [] (n + 1)) (envc e) = some (envc e) := by cases e <;> simp [mapOpt]
@[simp] theorem pict_envE {S : St} {n : Nat} (e : Env) : pict S [] (n + 2) (encE e) = some (encE e) := by cases e <;> simp [mapOpt]
@[simp] theorem pict_envc {S : St} {n : Nat} (e : Env) : pict S [] (n + 2) (.agg (envc e)) = some (.agg (envc e)) := pict_envE e
@[simp] theorem solid_envc (e : Env) : solids (envc e) = true := by cases e <;> simp
@[simp] theorem envc_len (e : Env) : (envc e).length = 2 := by cases e <;> rfl
@[simp] theorem envc_ones (e : Env) : (∀ x, x ∈ envc e → x.one = true) = True := by cases e <;> simp
@[simp] theorem take_envc (e : Env) : (envc e).take 2 = envc e := by cases e <;> rfl
@[simp] theorem over_envc (u v : AV) (e : Env) : over [u, v] 0 (envc e) = envc e := by cases e <;> rfl
@[simp] theorem over_envc2 (e' e : Env) : over (envc e') 0 (envc e) = envc e := by cases e <;> cases e' <;> rfl
@[simp] theorem okEl_envc (e : Env) : okEl 2 (envc e) = true := by cases e <;> rfl
def joinL (l m : List Val) : List Val := (List.range (max m.length l.length)).map fun k : Nat => (getL l k).join (getL m k)
def Env.join (a b : Env) : Env := match a, b with
  | none, b => b.own
  | a, none => a.own
  | some l, some m => some (joinL l m)
theorem getL_ownL (l : List Val) (n : Nat) {k : Nat} (hk : k < max n l.length) : (ownL l n)[k]? = some (getL l k) := by simp [ownL, hk]
def Env.set (e : Env) (i : Int) (v : Val) : Env := e.own.map fun l => if 0 ≤ i ∧ i < l.length then l.set i.toNat v.sane else l
def leqL (l m : List Val) (k : Nat) : Prop := ∀ j, j < k → (getL l (j : Nat)).leq (getL m (j : Nat)) = true
noncomputable instance (l m : List Val) (k : Nat) : Decidable (leqL l m k) := Classical.propDecidable _
noncomputable def Env.leq (a b : Env) : Bool := match a, b with
  | none, _ => true
  | some _, none => false
  | some l, some m => decide (leqL l m (max l.length m.length))
end Go.Proofs.YtchkknkjhiaooaaGreatDoor.Vm
namespace Go.Proofs.YtchkknkjhiaooaaGreatDoor.Vm
open Go Go.RowKit
variable {N : Nat} {g : Glob}
def capN (n : Int) : Nat := (max 0 (min n 64)).toNat
def startL (par vars : Int) : List Val := (List.range (capN vars)).map fun k : Nat => if (k : Int) < par then ⟨2, 0⟩ else ⟨1, 0⟩
theorem startL_len (par vars : Int) : (startL par vars).length = capN vars := by simp [startL]
def Ins.number (i : Ins) (e : Env) : Val :=
  if i.kind = 0 then ⟨1, wrap32 i.c⟩ else if i.kind = 1 then e.get i.a else if i.kind = 2 then Val.each i64sub ⟨1, wrap32 0⟩ (e.get i.a) else if i.kind = 3 then (e.get i.a).each i64add (e.get i.b) else
  if i.kind = 4 then (e.get i.a).each i64sub (e.get i.b) else if i.kind = 5 then (e.get i.a).each i64mul (e.get i.b) else ⟨2, 0⟩
def Ins.flat (i : Ins) (e : Env) : Env := e.set i.def (i.number e)
def pastL (e : Env) (l : List Ins) : Env := l.foldl (fun e i => i.flat e) e
end Go.Proofs.YtchkknkjhiaooaaGreatDoor.Vm
namespace Go.Proofs.YtchkknkjhiaooaaGreatDoor.Vm
open Go Go.RowKit
theorem Val.cases {v : Val} (h : v.ok = true) : v = ⟨0, 0⟩ ∨ v = ⟨2, 0⟩ ∨ ∃ c, v = ⟨1, c⟩ := by
  obtain ⟨k, c⟩ := v
  unfold Val.ok at h
  simp only at h
  split at h
  · rename_i hk; subst hk; exact .inr (.inr ⟨c, rfl⟩)
  · split at h
    · rename_i h1 hk
      simp only [decide_eq_true_eq] at h
      subst h
      rcases hk with rfl | rfl
      · exact .inl rfl
      · exact .inr (.inl rfl)
    · cases h
theorem Val.join_of {a b : Val} (ha : a.ok = true) (hb : b.ok = true) : a.join b = if a.k = 0 ∨ a = b then b else if b.k = 0 then a else ⟨2, 0⟩ := by
  unfold Val.join; rw [Val.sane_of ha, Val.sane_of hb]
def Val.le (a b : Val) : Prop := a.k = 0 ∨ b.k = 2 ∨ a = b
theorem Val.le_refl (a : Val) : a.le a := .inr (.inr rfl)
theorem Val.ok_top {v : Val} (h : v.ok = true) (hk : v.k = 2) : v = ⟨2, 0⟩ := by
  rcases Val.cases h with rfl | rfl | ⟨c, rfl⟩
  · cases hk
  · rfl
  · cases hk
theorem Val.le_trans {a b c : Val} (hb : b.ok = true) (h1 : a.le b) (h2 : b.le c) : a.le c := by
  rcases h1 with h1 | h1 | h1
  · exact .inl h1
  · rcases h2 with h2 | h2 | h2
    · rw [h1] at h2; cases h2
    · exact .inr (.inl h2)
    · rw [← h2]; exact .inr (.inl h1)
  · rw [h1]; exact h2
theorem Val.le_anti {a b : Val} (ha : a.ok = true) (hb : b.ok = true) (h1 : a.le b) (h2 : b.le a) : a = b := by
  rcases h1 with h1 | h1 | h1
  · rcases h2 with h2 | h2 | h2
    · rw [Val.ok_bot ha h1, Val.ok_bot hb h2]
    · rw [h1] at h2; cases h2
    · exact h2.symm
  · rcases h2 with h2 | h2 | h2
    · rw [h1] at h2; cases h2
    · rw [Val.ok_top ha h2, Val.ok_top hb h1]
    · exact h2.symm
  · exact h1
theorem Val.join_ok {a b : Val} (ha : a.ok = true) (hb : b.ok = true) : (a.join b).ok = true := by
  rw [Val.join_of ha hb]
  split
  · exact hb
  · split
    · exact ha
    · rfl
theorem Val.join_ok' (a b : Val) : (a.join b).ok = true := by
  unfold Val.join
  split
  · exact b.sane_ok
  · split
    · exact a.sane_ok
    · rfl
theorem Val.le_join_l {a b : Val} (ha : a.ok = true) (hb : b.ok = true) : a.le (a.join b) := by
  rw [Val.join_of ha hb]
  split
  · rename_i h
    rcases h with h | h
    · exact .inl h
    · exact .inr (.inr h)
  · split
    · exact Val.le_refl a
    · exact .inr (.inl rfl)
theorem Val.le_join_r {a b : Val} (ha : a.ok = true) (hb : b.ok = true) : b.le (a.join b) := by
  rw [Val.join_of ha hb]
  split
  · exact Val.le_refl b
  · split
    · rename_i h; exact .inl h
    · exact .inr (.inl rfl)
theorem Val.join_le {a b c : Val} (ha : a.ok = true) (hb : b.ok = true) (hc : c.ok = true) (h1 : a.le c) (h2 : b.le c) : (a.join b).le c := by
  rw [Val.join_of ha hb]
  split
  · exact h2
  · split
    · exact h1
    · rename_i h3 h4
      rcases h1 with h1 | h1 | h1
      · exact absurd (.inl h1) h3
      · exact .inr (.inl h1)
      · rcases h2 with h2 | h2 | h2
        · exact absurd h2 h4
        · exact .inr (.inl h2)
        · exact absurd (.inr (h1.trans h2.symm)) h3
theorem Val.join_mono {a b a' b' : Val} (ha : a.ok = true) (hb : b.ok = true) (ha' : a'.ok = true) (hb' : b'.ok = true) (h1 : a.le a') (h2 : b.le b') : (a.join b).le (a'.join b') :=
  Val.join_le ha hb (Val.join_ok ha' hb') (Val.le_trans ha' h1 (Val.le_join_l ha' hb')) (Val.le_trans hb' h2 (Val.le_join_r ha' hb'))
theorem Val.each_of {op : Int → Int → Int} {a b : Val} (ha : a.ok = true) (hb : b.ok = true) : a.each op b = if a.k = 0 ∨ b.k = 0 then ⟨0, 0⟩ else if a.k = 2 ∨ b.k = 2 then ⟨2, 0⟩ else ⟨1, wrap32 (op a.c b.c)⟩ := by
  unfold Val.each; rw [Val.sane_of ha, Val.sane_of hb]
theorem Val.one_ok (n : Int) : (⟨1, wrap32 n⟩ : Val).ok = true := by
  have := wrap32_in n
  simp [Val.ok, this]
theorem Val.each_ok (op : Int → Int → Int) (a b : Val) : (a.each op b).ok = true := by
  unfold Val.each
  split
  · rfl
  · split
    · rfl
    · exact Val.one_ok _
theorem Val.each_mono {op : Int → Int → Int} {a b a' b' : Val} (ha : a.ok = true) (hb : b.ok = true) (ha' : a'.ok = true) (hb' : b'.ok = true) (h1 : a.le a') (h2 : b.le b') : (a.each op b).le (a'.each op b') := by
  have e3 := Val.each_of (op := op) ha' hb'
  rw [Val.each_of ha hb]
  by_cases h0 : a.k = 0 ∨ b.k = 0
  · rw [if_pos h0]; exact .inl rfl
  · rw [if_neg h0]
    have n1 : a'.k ≠ 0 := by
      intro h
      rcases h1 with h1 | h1 | h1
      · exact h0 (.inl h1)
      · rw [h] at h1; cases h1
      · rw [← h1] at h; exact h0 (.inl h)
    have n2 : b'.k ≠ 0 := by
      intro h
      rcases h2 with h2 | h2 | h2
      · exact h0 (.inr h2)
      · rw [h] at h2; cases h2
      · rw [← h2] at h; exact h0 (.inr h)
    rw [if_neg (fun h => h.elim n1 n2)] at e3
    by_cases h3 : a'.k = 2 ∨ b'.k = 2
    · rw [if_pos h3] at e3
      rw [e3]; exact .inr (.inl rfl)
    · rw [if_neg h3] at e3
      rw [e3]
      have e1 : a = a' := by
        rcases h1 with h1 | h1 | h1
        · exact absurd (.inl h1) h0
        · exact absurd (.inl h1) h3
        · exact h1
      have e2 : b = b' := by
        rcases h2 with h2 | h2 | h2
        · exact absurd (.inr h2) h0
        · exact absurd (.inr h2) h3
        · exact h2
      subst e1; subst e2
      rw [if_neg h3]
      exact Val.le_refl _
theorem Val.le_k {a b : Val} (ha : a.ok = true) (hb : b.ok = true) (h : a.le b) : a.k.toNat ≤ b.k.toNat ∧ (a ≠ b → a.k.toNat < b.k.toNat) ∧ b.k.toNat ≤ 2 := by
  rcases Val.cases ha with rfl | rfl | ⟨c, rfl⟩ <;> rcases Val.cases hb with rfl | rfl | ⟨d, rfl⟩ <;> simp [Val.le] at h ⊢
  exact h
def okL (l : List Val) : Prop := ∀ v ∈ l, v.ok = true
theorem getL_of {l : List Val} (h : okL l) {k : Nat} {v : Val} (hv : l[k]? = some v) : getL l (k : Int) = v := by
  have hk := (List.getElem?_eq_some_iff.1 hv).1
  unfold getL
  rw [if_pos (by omega)]
  simp only [Int.toNat_natCast, List.getD_eq_getElem?_getD, hv, Option.getD_some]
  exact Val.sane_of (h v (List.mem_of_getElem? hv))
theorem getL_ok (l : List Val) (i : Int) : (getL l i).ok = true := by
  unfold getL
  split
  · exact Val.sane_ok _
  · rfl
theorem ownL_of {l : List Val} (h : okL l) : ownL l 0 = l := by
  apply List.ext_getElem?
  intro k
  by_cases hk : k < l.length
  · obtain ⟨v, hv⟩ : ∃ v, l[k]? = some v := ⟨_, List.getElem?_eq_getElem hk⟩
    rw [getL_ownL l 0 (by omega), getL_of h hv, hv]
  · rw [List.getElem?_eq_none (by rw [ownL_len]; omega), List.getElem?_eq_none (by omega)]
def leL (l m : List Val) : Prop := ∀ (k : Nat) (a b : Val), l[k]? = some a → m[k]? = some b → a.le b
theorem getL_mono {l m : List Val} (hl : okL l) (hm : okL m) (hn : l.length = m.length) (h : leL l m) (i : Int) : (getL l i).le (getL m i) := by
  by_cases hi : 0 ≤ i ∧ i < l.length
  · obtain ⟨k, rfl⟩ : ∃ k : Nat, i = (k : Int) := ⟨i.toNat, by omega⟩
    obtain ⟨a, ha⟩ : ∃ v, l[k]? = some v := ⟨_, List.getElem?_eq_getElem (by omega)⟩
    obtain ⟨b, hb⟩ : ∃ v, m[k]? = some v := ⟨_, List.getElem?_eq_getElem (by omega)⟩
    rw [getL_of hl ha, getL_of hm hb]
    exact h k a b ha hb
  · have e : getL l i = Val.zero := by unfold getL; rw [if_neg hi]
    rw [e]; exact .inl rfl
def Env.fit (n : Nat) (e : Env) : Prop := ∀ l, e = some l → l.length = n ∧ okL l
def Env.le (a b : Env) : Prop := ∀ l, a = some l → ∃ m, b = some m ∧ leL l m
theorem Env.fit_none (n : Nat) : Env.fit n none := fun l h => by cases h
theorem Env.fit_some {n : Nat} {l : List Val} (h1 : l.length = n) (h2 : okL l) : Env.fit n (some l) := fun m h => by cases h; exact ⟨h1, h2⟩
theorem Env.own_of {n : Nat} {e : Env} (h : e.fit n) : e.own = e := by
  cases e with
  | none => rfl
  | some l => simp [Env.own, ownL_of (h l rfl).2]
theorem Env.le_refl (e : Env) : e.le e := fun l h => ⟨l, h, fun k a b ha hb => by rw [ha] at hb; cases hb; exact Val.le_refl a⟩
theorem Env.le_none (e : Env) : Env.le none e := fun l h => by cases h
theorem Env.le_trans {n : Nat} {a b c : Env} (hb : b.fit n) (hc : c.fit n) (h1 : a.le b) (h2 : b.le c) (ha : a.fit n) : a.le c := by
  intro l hl
  obtain ⟨m, hm, h3⟩ := h1 l hl
  obtain ⟨q, hq, h4⟩ := h2 m hm
  refine ⟨q, hq, fun k x z hx hz => ?_⟩
  have hk := (List.getElem?_eq_some_iff.1 hx).1
  have e1 := (ha l hl).1
  have e2 := (hb m hm).1
  obtain ⟨y, hy⟩ : ∃ v, m[k]? = some v := ⟨_, List.getElem?_eq_getElem (by omega)⟩
  exact Val.le_trans ((hb m hm).2 y (List.mem_of_getElem? hy)) (h3 k x y hx hy) (h4 k y z hy hz)
theorem Env.le_anti {n : Nat} {a b : Env} (ha : a.fit n) (hb : b.fit n) (h1 : a.le b) (h2 : b.le a) : a = b := by
  cases a with
  | none =>
    cases b with
    | none => rfl
    | some m => obtain ⟨l, hl, _⟩ := h2 m rfl; cases hl
  | some l =>
    obtain ⟨m, hm, h3⟩ := h1 l rfl
    subst hm
    obtain ⟨l', hl', h4⟩ := h2 m rfl
    cases hl'
    congr 1
    have e1 := (ha l rfl).1
    have e2 := (hb m rfl).1
    apply List.ext_getElem?
    intro k
    by_cases hk : k < n
    · obtain ⟨x, hx⟩ : ∃ v, l[k]? = some v := ⟨_, List.getElem?_eq_getElem (by omega)⟩
      obtain ⟨y, hy⟩ : ∃ v, m[k]? = some v := ⟨_, List.getElem?_eq_getElem (by omega)⟩
      rw [hx, hy, Val.le_anti ((ha l rfl).2 x (List.mem_of_getElem? hx)) ((hb m rfl).2 y (List.mem_of_getElem? hy)) (h3 k x y hx hy) (h4 k y x hy hx)]
    · rw [List.getElem?_eq_none (by omega), List.getElem?_eq_none (by omega)]
theorem joinL_get {l m : List Val} {n : Nat} (hl : l.length = n) (hm : m.length = n) {k : Nat} (hk : k < n) : (joinL l m)[k]? = some ((getL l k).join (getL m k)) := by
  simp [joinL, hl, hm, hk]
theorem Env.join_fit {n : Nat} {a b : Env} (ha : a.fit n) (hb : b.fit n) : (a.join b).fit n := by
  cases a with
  | none => show Env.fit n b.own; rw [Env.own_of hb]; exact hb
  | some l =>
    cases b with
    | none => show Env.fit n (Env.own (some l)); rw [Env.own_of ha]; exact ha
    | some m =>
      refine Env.fit_some ?_ fun v hv => ?_
      · simp [joinL, (ha l rfl).1, (hb m rfl).1]
      · simp only [joinL, List.mem_map] at hv
        obtain ⟨k, _, rfl⟩ := hv
        exact Val.join_ok' _ _
theorem Env.le_join_l {n : Nat} {a b : Env} (ha : a.fit n) (hb : b.fit n) : a.le (a.join b) := by
  cases a with
  | none => exact Env.le_none _
  | some l =>
    cases b with
    | none => show Env.le (some l) (Env.own (some l)); rw [Env.own_of ha]; exact Env.le_refl _
    | some m =>
      intro l' hl'
      cases hl'
      refine ⟨joinL l m, rfl, fun k x z hx hz => ?_⟩
      have hk := (List.getElem?_eq_some_iff.1 hx).1
      rw [joinL_get (ha l rfl).1 (hb m rfl).1 (by have := (ha l rfl).1; omega), getL_of (ha l rfl).2 hx] at hz
      cases hz
      exact Val.le_join_l ((ha l rfl).2 x (List.mem_of_getElem? hx)) (getL_ok _ _)
theorem Env.le_join_r {n : Nat} {a b : Env} (ha : a.fit n) (hb : b.fit n) : b.le (a.join b) := by
  cases a with
  | none => show Env.le b b.own; rw [Env.own_of hb]; exact Env.le_refl _
  | some l =>
    cases b with
    | none => exact Env.le_none _
    | some m =>
      intro l' hl'
      cases hl'
      refine ⟨joinL l m, rfl, fun k x z hx hz => ?_⟩
      have hk := (List.getElem?_eq_some_iff.1 hx).1
      rw [joinL_get (ha l rfl).1 (hb m rfl).1 (by have := (hb m rfl).1; omega), getL_of (hb m rfl).2 hx] at hz
      cases hz
      exact Val.le_join_r (getL_ok _ _) ((hb m rfl).2 x (List.mem_of_getElem? hx))
theorem Env.join_le {n : Nat} {a b c : Env} (ha : a.fit n) (hb : b.fit n) (hc : c.fit n) (h1 : a.le c) (h2 : b.le c) : (a.join b).le c := by
  cases a with
  | none => show Env.le b.own c; rw [Env.own_of hb]; exact h2
  | some l =>
    cases b with
    | none => show Env.le (Env.own (some l)) c; rw [Env.own_of ha]; exact h1
    | some m =>
      intro l' hl'
      cases hl'
      obtain ⟨q, hq, h3⟩ := h1 l rfl
      obtain ⟨q', hq', h4⟩ := h2 m rfl
      rw [hq] at hq'; cases hq'
      refine ⟨q, hq, fun k x z hx hz => ?_⟩
      have hk := (List.getElem?_eq_some_iff.1 hz).1
      have e1 := (ha l rfl).1
      have e2 := (hb m rfl).1
      have e3 := (hc q hq).1
      obtain ⟨u, hu⟩ : ∃ v, l[k]? = some v := ⟨_, List.getElem?_eq_getElem (by omega)⟩
      obtain ⟨v, hv⟩ : ∃ v, m[k]? = some v := ⟨_, List.getElem?_eq_getElem (by omega)⟩
      rw [joinL_get e1 e2 (by omega), getL_of (ha l rfl).2 hu, getL_of (hb m rfl).2 hv] at hx
      cases hx
      exact Val.join_le ((ha l rfl).2 u (List.mem_of_getElem? hu)) ((hb m rfl).2 v (List.mem_of_getElem? hv)) ((hc q hq).2 z (List.mem_of_getElem? hz)) (h3 k u z hu hz) (h4 k v z hv hz)
theorem Env.join_mono {n : Nat} {a b a' b' : Env} (ha : a.fit n) (hb : b.fit n) (ha' : a'.fit n) (hb' : b'.fit n) (h1 : a.le a') (h2 : b.le b') : (a.join b).le (a'.join b') :=
  Env.join_le ha hb (Env.join_fit ha' hb') (Env.le_trans ha' (Env.join_fit ha' hb') h1 (Env.le_join_l ha' hb') ha) (Env.le_trans hb' (Env.join_fit ha' hb') h2 (Env.le_join_r ha' hb') hb)
theorem Env.get_ok (e : Env) (i : Int) : (e.get i).ok = true := by
  cases e with
  | none => rfl
  | some l => exact getL_ok l i
theorem Env.get_mono {n : Nat} {a b : Env} (ha : a.fit n) (hb : b.fit n) (h : a.le b) (i : Int) : (a.get i).le (b.get i) := by
  cases a with
  | none => exact .inl rfl
  | some l =>
    obtain ⟨m, hm, h3⟩ := h l rfl
    subst hm
    exact getL_mono (ha l rfl).2 (hb m rfl).2 (by rw [(ha l rfl).1, (hb m rfl).1]) h3 i
theorem Env.set_of {n : Nat} {l : List Val} (h : Env.fit n (some l)) (i : Int) {v : Val} (hv : v.ok = true) : Env.set (some l) i v = some (if 0 ≤ i ∧ i < n then l.set i.toNat v else l) := by
  show Option.map _ (Env.own (some l)) = _
  rw [Env.own_of h]
  simp [Val.sane_of hv, (h l rfl).1]
theorem Env.set_fit {n : Nat} {e : Env} (h : e.fit n) (i : Int) {v : Val} (hv : v.ok = true) : (e.set i v).fit n := by
  cases e with
  | none => exact Env.fit_none n
  | some l =>
    rw [Env.set_of h i hv]
    refine Env.fit_some ?_ fun u hu => ?_
    · split <;> simp [(h l rfl).1]
    · split at hu
      · rcases List.mem_or_eq_of_mem_set hu with h1 | h1
        · exact (h l rfl).2 u h1
        · rw [h1]; exact hv
      · exact (h l rfl).2 u hu
theorem Env.set_mono {n : Nat} {a b : Env} (ha : a.fit n) (hb : b.fit n) (h : a.le b) (i : Int) {u v : Val} (hu : u.ok = true) (hv : v.ok = true) (huv : u.le v) : (a.set i u).le (b.set i v) := by
  cases a with
  | none => exact Env.le_none _
  | some l =>
    obtain ⟨m, hm, h3⟩ := h l rfl
    subst hm
    rw [Env.set_of ha i hu, Env.set_of hb i hv]
    intro l' hl'
    cases hl'
    refine ⟨_, rfl, fun k x y hx hy => ?_⟩
    by_cases hi : 0 ≤ i ∧ i < n
    · rw [if_pos hi] at hx hy
      by_cases hk : k = i.toNat
      · subst hk
        rw [List.getElem?_set_self (by rw [(ha l rfl).1]; omega)] at hx
        rw [List.getElem?_set_self (by rw [(hb m rfl).1]; omega)] at hy
        cases hx; cases hy; exact huv
      · rw [List.getElem?_set_ne (Ne.symm hk)] at hx hy
        exact h3 k x y hx hy
    · rw [if_neg hi] at hx hy
      exact h3 k x y hx hy
theorem Ins.number_ok (i : Ins) (e : Env) : (i.number e).ok = true := by
  unfold Ins.number
  repeat' split
  all_goals first | exact Val.one_ok _ | exact Env.get_ok _ _ | exact Val.each_ok _ _ _ | rfl
theorem Ins.number_mono {n : Nat} {a b : Env} (ha : a.fit n) (hb : b.fit n) (h : a.le b) (i : Ins) : (i.number a).le (i.number b) := by
  have g1 := Env.get_mono ha hb h i.a
  have g2 := Env.get_mono ha hb h i.b
  have o1 := Env.get_ok a i.a
  have o2 := Env.get_ok a i.b
  have o3 := Env.get_ok b i.a
  have o4 := Env.get_ok b i.b
  unfold Ins.number
  repeat' split
  all_goals first | exact Val.le_refl _ | exact g1 | exact Val.each_mono (Val.one_ok _) o1 (Val.one_ok _) o3 (Val.le_refl _) g1 | exact Val.each_mono o1 o2 o3 o4 g1 g2
theorem Ins.flat_fit {n : Nat} {e : Env} (h : e.fit n) (i : Ins) : (i.flat e).fit n := Env.set_fit h _ (i.number_ok e)
theorem Ins.flat_mono {n : Nat} {a b : Env} (ha : a.fit n) (hb : b.fit n) (h : a.le b) (i : Ins) : (i.flat a).le (i.flat b) := Env.set_mono ha hb h _ (i.number_ok a) (i.number_ok b) (i.number_mono ha hb h)
theorem pastL_fit {n : Nat} {l : List Ins} : ∀ {e : Env}, e.fit n → (pastL e l).fit n := by
  induction l with
  | nil => intro e h; exact h
  | cons i l ih => intro e h; exact ih (i.flat_fit h)
theorem pastL_mono {n : Nat} {l : List Ins} : ∀ {a b : Env}, a.fit n → b.fit n → a.le b → (pastL a l).le (pastL b l) := by
  induction l with
  | nil => intro a b _ _ h; exact h
  | cons i l ih => intro a b ha hb h; exact ih (i.flat_fit ha) (i.flat_fit hb) (i.flat_mono ha hb h)
theorem startL_ok (par vars : Int) : okL (startL par vars) := by
  intro v hv
  simp only [startL, List.mem_map] at hv
  obtain ⟨k, _, rfl⟩ := hv
  split <;> rfl
def Env.ht : Env → Nat
  | none => 0
  | some l => 1 + (l.map fun v : Val => v.k.toNat).sum
theorem htL {l m : List Val} (hl : okL l) (hm : okL m) (hn : l.length = m.length) (h : leL l m) : (l.map fun v : Val => v.k.toNat).sum ≤ (m.map fun v : Val => v.k.toNat).sum ∧ (l ≠ m → (l.map fun v : Val => v.k.toNat).sum < (m.map fun v : Val => v.k.toNat).sum) ∧ (m.map fun v : Val => v.k.toNat).sum ≤ 2 * m.length := by
  induction l generalizing m with
  | nil =>
    cases m with
    | nil => simp
    | cons b m => simp at hn
  | cons a l ih =>
    cases m with
    | nil => simp at hn
    | cons b m =>
      obtain ⟨h1, h2, h3⟩ := ih (m := m) (fun v hv => hl v (by simp [hv])) (fun v hv => hm v (by simp [hv])) (by simpa using hn) fun k x y hx hy => h (k + 1) x y (by simpa using hx) (by simpa using hy)
      obtain ⟨g1, g2, g3⟩ := Val.le_k (hl a (by simp)) (hm b (by simp)) (h 0 a b rfl rfl)
      simp only [List.map_cons, List.sum_cons, List.length_cons]
      refine ⟨by omega, fun hne => ?_, by omega⟩
      by_cases hab : a = b
      · have : l ≠ m := fun e => hne (by rw [hab, e])
        have := h2 this
        omega
      · have := g2 hab
        omega
end Go.Proofs.YtchkknkjhiaooaaGreatDoor.Vm
namespace Go.Proofs.YtchkknkjhiaooaaGreatDoor.Vm
open Go Go.RowKit
set_option maxRecDepth 100000
variable {N : Nat} {g : Glob}
structure El (α : Type) where
  c1 : α → AV
  c2 : α → AV
  o1 : ∀ a, (c1 a).one = true
  o2 : ∀ a, (c2 a).one = true
  s1 : ∀ a, (c1 a).stab = true
  s2 : ∀ a, (c2 a).stab = true
  d1 : ∀ a, (c1 a).solid = true
  d2 : ∀ a, (c2 a).solid = true
def El.e {α : Type} (E : El α) (a : α) : List AV := [E.c1 a, E.c2 a]
section
variable {α : Type} {E : El α} {Y : Sys α}
end
end Go.Proofs.YtchkknkjhiaooaaGreatDoor.Vm
namespace Go.Proofs.YtchkknkjhiaooaaGreatDoor.Vm
open Go Go.RowKit
variable {N : Nat} {g : Glob}
def Fun.outs (f : Fun) (k : Nat) : List Int := (f.blks[k]?.map Blk.out).getD []
def Fun.code (f : Fun) (k : Nat) : List Ins := (f.blks[k]?.map Blk.ins).getD []
def Fun.predsTo (f : Fun) (b : Int) (k : Nat) : List Int := ((List.range k).filter fun j => decide (b ∈ f.outs j)).map fun j : Nat => (j : Int)
def Fun.preds (f : Fun) (b : Int) : List Int := f.predsTo b f.blks.length
theorem Fun.preds_mem {f : Fun} {b j : Int} : j ∈ f.preds b ↔ ∃ k x, j = ((k : Nat) : Int) ∧ f.blks[k]? = some x ∧ b ∈ x.out := by
  unfold Fun.preds Fun.predsTo
  simp only [List.mem_map, List.mem_filter, List.mem_range, decide_eq_true_eq]
  constructor
  · rintro ⟨k, ⟨hk, hb⟩, rfl⟩
    refine ⟨k, f.blks[k], rfl, List.getElem?_eq_getElem hk, ?_⟩
    simpa [Fun.outs, List.getElem?_eq_getElem hk] using hb
  · rintro ⟨k, x, rfl, hx, hb⟩
    exact ⟨k, ⟨(List.getElem?_eq_some_iff.1 hx).1, by simpa [Fun.outs, hx] using hb⟩, rfl⟩
noncomputable def Prg.preds (p : Prg) (i b : Int) : List Int := ((p.fn i).getD Fun.none).preds b
def Fun.start (f : Fun) : Env := some (startL f.par f.vars)
def Fun.cevTo (f : Fun) (x : List Env) (i : Nat) (m : List Int) : Env := m.foldl (fun e j => e.join (pastL (x.getD j.toNat Option.none) (f.code j.toNat))) (if i = 0 then f.start else Option.none)
def Fun.cev (f : Fun) (x : List Env) (i : Nat) : Env := f.cevTo x i (f.preds i)
theorem fold_fit {n : Nat} {h : Int → Env} (hh : ∀ j, (h j).fit n) (m : List Int) : ∀ {e : Env}, e.fit n → (m.foldl (fun e j => e.join (h j)) e).fit n := by
  induction m with
  | nil => intro e he; exact he
  | cons j m ih => intro e he; exact ih (Env.join_fit he (hh j))
theorem fold_mono {n : Nat} {h h' : Int → Env} (hh : ∀ j, (h j).fit n) (hh' : ∀ j, (h' j).fit n) (hle : ∀ j, (h j).le (h' j)) (m : List Int) : ∀ {e e' : Env}, e.fit n → e'.fit n → e.le e' → (m.foldl (fun e j => e.join (h j)) e).le (m.foldl (fun e j => e.join (h' j)) e') := by
  induction m with
  | nil => intro e e' _ _ hee; exact hee
  | cons j m ih => intro e e' he he' hee; exact ih (Env.join_fit he (hh j)) (Env.join_fit he' (hh' j)) (Env.join_mono he (hh j) he' (hh' j) hee (hle j))
theorem fold_same {h h' : Int → Env} : ∀ (m : List Int) (e : Env), (∀ j ∈ m, h j = h' j) → m.foldl (fun e j => e.join (h j)) e = m.foldl (fun e j => e.join (h' j)) e
  | [], e, _ => rfl
  | j :: m, e, hm => by
    rw [List.foldl_cons, List.foldl_cons, hm j (by simp)]
    exact fold_same m _ fun k hk => hm k (by simp [hk])
def Fun.wid (f : Fun) : Nat := capN f.vars
theorem Fun.start_fit (f : Fun) : f.start.fit f.wid := Env.fit_some (startL_len _ _) (startL_ok _ _)
theorem at_fit {n : Nat} {x : List Env} (h : ∀ e ∈ x, Env.fit n e) (k : Nat) : (x.getD k Option.none).fit n := by
  rw [List.getD_eq_getElem?_getD]
  cases hx : x[k]? with
  | none => exact Env.fit_none n
  | some e => exact h e (List.mem_of_getElem? hx)
theorem Fun.cev_first (f : Fun) (i : Nat) : (if i = 0 then f.start else Option.none : Env).fit f.wid := by
  split
  · exact f.start_fit
  · exact Env.fit_none _
theorem Fun.cevTo_fit (f : Fun) {x : List Env} (h : ∀ e ∈ x, Env.fit f.wid e) (i : Nat) (m : List Int) : (f.cevTo x i m).fit f.wid :=
  fold_fit (fun j => pastL_fit (at_fit h _)) _ (f.cev_first i)
theorem Fun.cev_fit (f : Fun) {x : List Env} (h : ∀ e ∈ x, Env.fit f.wid e) (i : Nat) : (f.cev x i).fit f.wid := f.cevTo_fit h i _
theorem getD_le {n : Nat} {x y : List Env} (hl : x.length = y.length) (h : ∀ (k : Nat) a b, x[k]? = some a → y[k]? = some b → Env.le a b) (k : Nat) : (x.getD k Option.none).le (y.getD k Option.none) := by
  rw [List.getD_eq_getElem?_getD, List.getD_eq_getElem?_getD]
  by_cases hk : k < x.length
  · obtain ⟨a, ha⟩ : ∃ v, x[k]? = some v := ⟨_, List.getElem?_eq_getElem hk⟩
    obtain ⟨b, hb⟩ : ∃ v, y[k]? = some v := ⟨_, List.getElem?_eq_getElem (by omega)⟩
    rw [ha, hb]; exact h k a b ha hb
  · rw [List.getElem?_eq_none (by omega)]; exact Env.le_none _
def Fun.csys (f : Fun) : Sys Env where
  n := f.blks.length
  ev := f.cev
  rd i := f.preds i
  ok := Env.fit f.wid
  le := Env.le
  bot := Option.none
  ht := Env.ht
  top := 1 + 2 * f.wid
  refl a _ := Env.le_refl a
  trans a b c ha hb hc h1 h2 := Env.le_trans hb hc h1 h2 ha
  anti a b ha hb h1 h2 := Env.le_anti ha hb h1 h2
  botOk := Env.fit_none _
  botLe a _ := Env.le_none a
  htop a ha := by
    cases a with
    | none => simp [Env.ht]
    | some l =>
      have h1 := htL (ha l rfl).2 (ha l rfl).2 rfl (fun k a b h1 h2 => by rw [h1] at h2; cases h2; exact Val.le_refl a)
      have h2 := (ha l rfl).1
      simp only [Env.ht]
      omega
  hlt a b ha hb hle hne := by
    cases a with
    | none =>
      cases b with
      | none => exact absurd rfl hne
      | some m => simp only [Env.ht]; omega
    | some l =>
      obtain ⟨m, hm, h3⟩ := hle l rfl
      subst hm
      have h1 := htL (ha l rfl).2 (hb m rfl).2 (by rw [(ha l rfl).1, (hb m rfl).1]) h3
      have h2 := h1.2.1 fun e => hne (by rw [e])
      simp only [Env.ht]
      omega
  evOk x i _ hx _ := f.cev_fit hx i
  mono x y i hx hy hxo hyo hle _ := fold_mono (fun j => pastL_fit (at_fit hxo _)) (fun j => pastL_fit (at_fit hyo _)) (fun j => pastL_mono (at_fit hxo _) (at_fit hyo _) (getD_le (n := f.wid) (by rw [hx, hy]) hle _)) _ (f.cev_first i) (f.cev_first i) (Env.le_refl _)
  dep x i k a hno := fold_same _ _ fun j hj => by
    rw [List.getD_eq_getElem?_getD, List.getD_eq_getElem?_getD, List.getElem?_set_ne (Ne.symm (hno j hj))]
  nn i j hj := by
    obtain ⟨k, _, rfl, _⟩ := Fun.preds_mem.1 hj
    exact Int.natCast_nonneg k
noncomputable def Fun.cin (f : Fun) : List Env := f.csys.sol
end Go.Proofs.YtchkknkjhiaooaaGreatDoor.Vm
namespace Go.Proofs.YtchkknkjhiaooaaGreatDoor.Vm
open Go Go.RowKit
variable {N : Nat} {g : Glob}
def prc (m : List Int) : List AV := [encF intc 1 m]
end Go.Proofs.YtchkknkjhiaooaaGreatDoor.Vm
namespace Go.Proofs.YtchkknkjhiaooaaGreatDoor.Vm
open Go Go.RowKit
variable {N : Nat} {g : Glob}
noncomputable def Prg.cin (p : Prg) (i : Int) : List Env := match p.fn i with
  | none => []
  | some f => f.cin
noncomputable def Fun.cat (f : Fun) (j : Nat) (k : Nat) : Env := pastL (f.cin.getD j Option.none) ((f.code j).take k)
noncomputable def Prg.cat (p : Prg) (i j k : Int) : Env := match p.fn i with
  | none => Option.none
  | some f => match f.blk j with
    | none => Option.none
    | some b => if 0 ≤ k ∧ k ≤ b.ins.length then f.cat j.toNat k.toNat else Option.none
end Go.Proofs.YtchkknkjhiaooaaGreatDoor.Vm
namespace Go.Proofs.YtchkknkjhiaooaaGreatDoor.Vm
open Go Go.RowKit
variable {N : Nat} {g : Glob}
def Env.vals (e : Env) : List Val := e.getD []
def Env.vV : Env → AV
  | none => .nilsl
  | some l => .fsl 2 (els valc l)
theorem Env.vS (e : Env) : FSl valc 2 e.vV e.vals := by
  cases e with
  | none => exact .nil
  | some l => exact .mk
@[simp] theorem Env.vV_none : Env.vV Option.none = .nilsl := _root_.id rfl
@[simp] theorem Env.vV_some {l : List Val} : Env.vV (some l) = .fsl 2 (els valc l) := _root_.id rfl
@[simp] theorem Env.vV_one (e : Env) : e.vV.one = true := fsl_one e.vS
end Go.Proofs.YtchkknkjhiaooaaGreatDoor.Vm
namespace Go.Proofs.YtchkknkjhiaooaaGreatDoor.Vm
open Go Go.RowKit
variable {N : Nat} {g : Glob}
@[simp] theorem guaD_none {d op b yes no} : GuaD d op b .none yes no = no := _root_.id rfl
@[simp] theorem gua_none {d op b F S K} : Gua P g .none b d op F S K = K .none S := _root_.id rfl
theorem FunOK.wid {p : Prg} {f : Fun} (h : FunOK p f) : (f.wid : Int) = f.vars := by
  have := h.vars
  unfold Fun.varsOK at this
  unfold Fun.wid capN
  omega
end Go.Proofs.YtchkknkjhiaooaaGreatDoor.Vm
namespace Go.Proofs.YtchkknkjhiaooaaGreatDoor.Vm
open Go Go.RowKit
variable {N : Nat} {g : Glob}
theorem ref10_Has (l : List Int) (n : Int) (v : AV) (hv : FSl intc 1 v l) (hl : l.length < 2 ^ 40) : Ret P g false 50 [v, .int .i64 n] (.bool (decide (n ∈ l))) := by
  refine Ret.in c50 (by simp) ?_
  simp [k50]
  refine W.whileI (fun (k : Nat) F S => k ≤ l.length ∧ n ∉ l.take k ∧ F 0 = v ∧ F 1 = .int .i64 n ∧ F 5 = .int .i64 k) (fun k => l.length - k) ?_ 0 _ _ ?_
  · rintro k F S ⟨hk, hno, f0, f1, f5⟩
    simp [f0, f5, hv.len]
    by_cases hlt : k < l.length
    · obtain ⟨x, hx⟩ : ∃ x, l[k]? = some x := ⟨_, List.getElem?_eq_getElem hlt⟩
      have e4 := wrapS k (by omega)
      simp [hlt, f0, f1, f5, hv.idx hx, intc]
      refine bra_dec (fun h => ?_) (fun h => ?_)
      · simp
        exact RK.eq (by rw [← h]; simp [List.mem_of_getElem? hx]) rfl
      · simp [f0, f1, f5, e4]
        refine ⟨k + 1, by omega, by omega, ?_, by omega⟩
        rw [take_succ_get hx, List.mem_append, List.mem_singleton]
        rintro (h' | h')
        · exact hno h'
        · exact h h'.symm
    · have : k = l.length := by omega
      subst this
      rw [List.take_length] at hno
      simp
      exact RK.eq (by simp [hno]) rfl
  · simp
def Fun.isOne (f : Fun) (b k : Nat) (x : Ins) : Prop := 0 ≤ x.def ∧ ((f.cat b (k + 1)).get x.def).k = 1
noncomputable instance (f : Fun) (b k : Nat) (x : Ins) : Decidable (f.isOne b k x) := Classical.propDecidable _
structure LsI (p : Prg) (f : Fun) (S : St) : Prop where
  s0 : S.obj 0 = some (.row 1 [[p.funsV]])
  s1 : S.obj 1 = some (.row 3 [func f])
  n : 1 < S.next
theorem LsI.up {p : Prg} {f : Fun} {S S' : St} (h : LsI p f S) (hu : ∀ q, q < 2 → S'.obj q = S.obj q) (hn : S.next ≤ S'.next) : LsI p f S' := ⟨by rw [hu 0 (by omega)]; exact h.s0, by rw [hu 1 (by omega)]; exact h.s1, by have := h.n; omega⟩
end Go.Proofs.YtchkknkjhiaooaaGreatDoor.Vm
