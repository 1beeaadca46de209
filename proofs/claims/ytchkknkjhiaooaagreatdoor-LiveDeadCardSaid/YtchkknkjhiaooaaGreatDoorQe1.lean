/- A part of the proof: Hj Hk Hl Se. -/
import Derived.Test.YtchkknkjhiaooaaGreatDoorQe0
set_option linter.unusedVariables false
set_option linter.unusedSimpArgs false
set_option linter.constructorNameAsVariable false
namespace Go.Proofs.YtchkknkjhiaooaaGreatDoor.Vm
open Go Go.RowKit
variable {N : Nat} {g : Glob}
def IntRow (S : St) (o : Nat) : Prop := ∃ l : List Int, l ≠ [] ∧ S.obj o = some (.row 1 (els intc l))
theorem IntRow.no {S : St} {o : Nat} {x : AObj} (h : S.obj o = some x) (hx : ∀ l : List Int, l ≠ [] → x ≠ .row 1 (els intc l)) : ¬ IntRow S o := by
  rintro ⟨l, h1, h2⟩
  rw [h] at h2
  exact hx l h1 (Option.some.inj h2)
theorem row1_no {y : AV} (h : ∀ k n, y ≠ .int k n) (l : List Int) (hl : l ≠ []) : (AObj.row 1 [[y]]) ≠ .row 1 (els intc l) := by
  intro e
  cases l with
  | nil => exact hl rfl
  | cons a l =>
    simp [els, intc] at e
    exact h _ _ e.1
theorem rowU_no (ws : List Nat) (l : List Int) (hl : l ≠ []) : (AObj.row 1 (els u64c ws)) ≠ .row 1 (els intc l) := by
  intro e
  cases l with
  | nil => exact hl rfl
  | cons a l =>
    cases ws with
    | nil => simp [els] at e
    | cons w ws => simp [els, intc, u64c] at e
theorem calV_st {fv : AV} {xs : List AV} {S : St} {K : AV → St → Prop} (h : ∀ T, T = S → CalV P g fv xs T K) : CalV P g fv xs S K := h S rfl
theorem live_back2 {yf v sv : AV} (hyc : yf.cells = [yf]) (hyi : ∀ k n, yf ≠ .int k n) {oi oa : Nat} {l : List Ins} {s0 : BSet} {S : St} {K : AV → St → Prop} (hv : FSl insc 11 v l) (hl : l.length < 2 ^ 40) (hs0 : s0.OK) (M : Nat → Prop) (Inv : Nat → St → Prop)
    (hM : ∀ o, M o → o < S.next) (hMi : ¬ M oi) (hMa : ¬ M oa) (hoi : oi < S.next) (hoa : oa < S.next) (hne : oi ≠ oa)
    (si : S.obj oi = some (.row 1 [[v]])) (sa : S.obj oa = some (.row 2 [[.int .i64 s0.n, sv]])) (hsv : IsRow S sv s0) (hsM : ∀ o, sv = .sl 1 o 0 (nw s0.n) → ¬ M o ∧ o ≠ oa)
    (hkeep : ∀ k S' S'', Inv k S' → Keeps (fun o => o = oa ∨ o = S.next + 1 + 1) S' S'' → Inv k S'') (h0 : Inv 0 S)
    (hst : ∀ (k : Nat) (x : Ins) (S' : St) (va vl : AV), k < l.length → l[l.length - 1 - k]? = some x → S.next + 3 ≤ S'.next → Inv k S' → IsRow S' va (liveTo l s0 k) → IsRow S' vl (liveTo l s0 (k + 1)) → (∀ o, vl = .sl 1 o 0 (nw s0.n) → S.next + 3 ≤ o) →
      ∀ K' : AV → St → Prop, (∀ S'', Inv (k + 1) S'' → Keeps (fun o => M o ∨ IntRow S' o) S' S'' → K' (.bool true) S'') → CalV P (gl N) yf [encI x, .agg [.int .i64 s0.n, va, .int .i64 s0.n, vl]] S' K')
    (hk : ∀ S', Inv l.length S' → K (.tuple []) S') : Cal P (gl N) 159 [yf, .ptr oi 0 0, .ptr oa 0 0] S K := by
  refine c159.in (by simp) ?_
  have n1 : oi ≠ S.next := by omega
  have n2 : oa ≠ S.next := by omega
  simp [k159, hyc, si, n1]
  refine Backward_fn hv.cells ?_
  simp
  refine W.rangeC (f := 228) (captured := [.ptr (S.next + 1) 0 0]) (by simp) ?_
  simp
  generalize hLF : upd (upd (upd (entry [yf, AV.ptr oi 0 0, AV.ptr oa 0 0]) 3 (AV.ptr S.next 0 0)) 7 v) 8 (AV.func (Fn.func 228) [] [AV.ptr (S.next + 1) 0 0]) = LF
  have lf2 : LF 2 = .ptr oa 0 0 := by rw [← hLF]; simp
  have lf3 : LF 3 = .ptr S.next 0 0 := by rw [← hLF]; simp
  refine Backward_ins hv hl (fun k S' => Inv k S' ∧ S.next ≤ S'.next ∧ S.next + 3 ≤ S'.next ∧ S'.obj S.next = some (.row 1 [[yf]]) ∧ S'.obj (S.next + 1) = some (.row 1 [[v]]) ∧
    S'.obj (S.next + 1 + 1) = some (.loop 22 #[9, 10] LF (rngA Tryz.f159 0) (rngB Tryz.f159 0) .ready) ∧
    ∃ sv, S'.obj oa = some (.row 2 [[.int .i64 s0.n, sv]]) ∧ IsRow S' sv (liveTo l s0 k) ∧ ∀ o, sv = .sl 1 o 0 (nw s0.n) → ¬ M o ∧ o ≠ oa ∧ o ≠ S.next + 1 + 1) ?_ ?_ ?_ ?_
  · refine ⟨hkeep 0 S _ h0 ⟨by simp; omega, fun o ho _ => by simp [show o ≠ S.next by omega, show o ≠ S.next + 1 by omega, show o ≠ S.next + 1 + 1 by omega]⟩, by simp; omega, by simp, by simp; omega, by simp, by simp, sv, ?_, ?_, ?_⟩
    · simp [show oa ≠ S.next by omega, show oa ≠ S.next + 1 by omega, show oa ≠ S.next + 1 + 1 by omega, sa]
    · rw [liveTo_zero]
      exact hsv.keep (M := M) ⟨by simp; omega, fun o ho _ => by simp [show o ≠ S.next by omega, show o ≠ S.next + 1 by omega, show o ≠ S.next + 1 + 1 by omega]⟩ fun o h => (hsM o h).1
    · intro o h
      refine ⟨(hsM o h).1, (hsM o h).2, ?_⟩
      rcases hsv with h' | ⟨o', ho', h', _⟩
      · rw [h] at h'; cases h'
      · rw [h] at h'; cases h'; omega
  · rintro k S' ⟨_, _, _, _, h, _⟩
    exact h
  · rintro k x S' hkl hx ⟨hi, hkp, hn, q0, q1, q2, sv', a1, a2, a3⟩ K' hK'
    have hok := liveTo_ok l hs0 k
    simp
    refine Yie.in q2 (by simp) (by simp) c159A0 c159B0 ?_
    have m1 : ¬ S.next + 1 + 1 = S'.next := by omega
    have m2 : ¬ oa = S'.next := by omega
    have m3 : ¬ oa = S.next + 1 + 1 := by omega
    have m4 : ¬ S.next = S'.next := by omega
    have m5 : ¬ S.next = S.next + 1 + 1 := by omega
    have m6 : ¬ S'.next = S.next + 1 + 1 := by omega
    simp [k159A0, k159B0, puts, lf2, lf3, a1, q0, q2, m1, m2, m3, m4, m5, m6]
    refine (instr_Live x (liveTo l s0 k) hok.1).use' (n := 9) ?_ ?_ ?_
    · rcases a2 with rfl | ⟨o, b1, rfl, b2⟩
      · simp [hok.2]
      · have hr := readAll (e := u64c) (l := (liveTo l s0 k).ws) (k := nw s0.n) (by rw [hok.1.len, hok.2])
        have b3 := a3 o (by rw [hok.2])
        have b4 : ¬ o = S.next + 1 + 1 := b3.2.2
        have b5 : ¬ o = S'.next := by omega
        simp [hok.2, b2, b4, b5, hr]
    · simp
    · have m7 : ¬ S.next = S'.next + 1 + 1 := by omega
      have m8 : ¬ S.next = S'.next + 1 := by omega
      have m9 : ¬ oa = S'.next + 1 + 1 := by omega
      have m10 : ¬ oa = S'.next + 1 := by omega
      have m11 : ¬ S.next + 1 + 1 = S'.next + 1 := by omega
      have m12 : ¬ S.next + 1 + 1 = S'.next + 1 + 1 := by omega
      have m13 : ¬ S'.next + 1 = S.next + 1 + 1 := by omega
      have m14 : ¬ S'.next + 1 + 1 = S.next + 1 + 1 := by omega
      have m15 : ¬ S'.next = S'.next + 1 + 1 := by omega
      have m16 : ¬ S'.next = S'.next + 1 := by omega
      have hMn : ∀ o, S.next ≤ o → ¬ M o := fun o h h' => by have := hM o h'; omega
      simp [hok.2, lf2, lf3, a1, q0, q2, m1, m2, m3, m4, m5, m6, m7, m8, m9, m10, m11, m12, m13, m14, m15, m16]
      refine calV_st fun St hSt => ?_
      refine hst k x St _ _ hkl hx (by rw [hSt]; simp; omega) (hkeep k S' _ hi ?_) (a2.keep (M := fun o => o = S.next + 1 + 1) ?_ ?_) ?_ ?_ _ ?_
      · subst hSt
        refine ⟨by simp; omega, fun o ho hq => ?_⟩
        have hq : ¬ o = S.next + 1 + 1 := fun h => hq (.inr h)
        simp [hq, show ¬ o = S'.next by omega, show ¬ o = S'.next + 1 by omega, show ¬ o = S'.next + 1 + 1 by omega]
      · subst hSt
        refine ⟨by simp; omega, fun o ho hq => ?_⟩
        have hq : ¬ o = S.next + 1 + 1 := hq
        simp [hq, show ¬ o = S'.next by omega, show ¬ o = S'.next + 1 by omega, show ¬ o = S'.next + 1 + 1 by omega]
      · subst hSt
        intro o ho
        rw [hok.2] at ho
        exact (a3 o ho).2.2
      · subst hSt
        rw [liveTo_succ hkl hx]
        refine .inr ⟨S'.next + 1, by simp, by rw [Ins.live_n, hok.2], by simp [m13]⟩
      · subst hSt
        intro o ho
        cases ho
        omega
      · intro S'' hi'' hkp''
        simp
        have hn'' : S'.next + 3 ≤ S''.next := by have := hkp''.1; rw [hSt] at this; simp at this; omega
        have m17 : ¬ S.next + 1 = S.next + 1 + 1 := by omega
        have m18 : ¬ S.next + 1 = S'.next := by omega
        have m19 : ¬ S.next + 1 = S'.next + 1 := by omega
        have m20 : ¬ S.next + 1 = S'.next + 1 + 1 := by omega
        have m21 : ¬ S'.next + 1 = S'.next + 1 + 1 := by omega
        have m22 : ¬ S'.next + 1 = S'.next := by omega
        have hvi : ∀ k n, v ≠ .int k n := fun k n h => by rcases hv with h' | ⟨h', _⟩ <;> rw [h'] at h <;> cases h
        have hlo := liveTo_ok l hs0 (k + 1)
        have c1 : St.obj (S'.next + 1 + 1) = some (.row 2 [[.int .i64 s0.n, .sl 1 (S'.next + 1) 0 (nw s0.n)]]) := by rw [hSt]; simp [m1, m2, m3, m4, m5, m6, m7, m8, m9, m10, m11, m12, m13, m14, m15, m16, m17, m18, m19, m20, m21, m22, a1, q0, q1, q2]
        have c2 : St.obj oa = some (.row 2 [[.int .i64 s0.n, sv']]) := by rw [hSt]; simp [m1, m2, m3, m4, m5, m6, m7, m8, m9, m10, m11, m12, m13, m14, m15, m16, m17, m18, m19, m20, m21, m22, a1, q0, q1, q2]
        have c3 : St.obj (S.next + 1 + 1) = some (.loop 22 #[9, 10] LF (rngA Tryz.f159 0) (rngB Tryz.f159 0) .busy) := by rw [hSt]; simp [m1, m2, m3, m4, m5, m6, m7, m8, m9, m10, m11, m12, m13, m14, m15, m16, m17, m18, m19, m20, m21, m22, a1, q0, q1, q2]
        have c4 : St.obj S.next = some (.row 1 [[yf]]) := by rw [hSt]; simp [m1, m2, m3, m4, m5, m6, m7, m8, m9, m10, m11, m12, m13, m14, m15, m16, m17, m18, m19, m20, m21, m22, a1, q0, q1, q2]
        have c5 : St.obj (S.next + 1) = some (.row 1 [[v]]) := by rw [hSt]; simp [m1, m2, m3, m4, m5, m6, m7, m8, m9, m10, m11, m12, m13, m14, m15, m16, m17, m18, m19, m20, m21, m22, a1, q0, q1, q2]
        have c6 : St.obj (S'.next + 1) = some (.row 1 (els u64c (x.live (liveTo l s0 k)).ws)) := by rw [hSt]; simp [m1, m2, m3, m4, m5, m6, m7, m8, m9, m10, m11, m12, m13, m14, m15, m16, m17, m18, m19, m20, m21, m22, a1, q0, q1, q2]
        have cn : St.next = S'.next + 3 := by rw [hSt]; simp
        have hso := hkp''.2
        have z1 := (hso (S'.next + 1 + 1) (by omega) (fun h => h.elim (hMn _ (by omega)) (IntRow.no c1 fun _ _ e => by cases e))).trans c1
        have z2 := (hso oa (by omega) (fun h => h.elim hMa (IntRow.no c2 fun _ _ e => by cases e))).trans c2
        have z3 := (hso (S.next + 1 + 1) (by omega) (fun h => h.elim (hMn _ (by omega)) (IntRow.no c3 fun _ _ e => by cases e))).trans c3
        have z4 := (hso S.next (by omega) (fun h => h.elim (hMn _ (by omega)) (IntRow.no c4 (row1_no hyi)))).trans c4
        have z5 := (hso (S.next + 1) (by omega) (fun h => h.elim (hMn _ (by omega)) (IntRow.no c5 (row1_no hvi)))).trans c5
        have z6 := (hso (S'.next + 1) (by omega) (fun h => h.elim (hMn _ (by omega)) (IntRow.no c6 (rowU_no _)))).trans c6
        have w1 : ¬ S.next = oa := by omega
        have w2 : ¬ S.next + 1 = oa := by omega
        have w3 : ¬ S.next + 1 + 1 = oa := by omega
        have w4 : ¬ S'.next + 1 = oa := by omega
        have hlk := hkp
        simp [z1, z2, z3, lf2, w3]
        refine hK' _ ⟨hkeep (k + 1) S'' _ hi'' ⟨by simp, fun o ho hq => ?_⟩, by simp; omega, by simp; omega, by simp [w1, m5, z4], by simp [w2, m17, z5], by simp, .sl 1 (S'.next + 1) 0 (nw s0.n), by simp [m3], ?_, ?_⟩
        · have h1 : ¬ o = oa := fun h => hq (.inl h)
          have h2 : ¬ o = S.next + 1 + 1 := fun h => hq (.inr h)
          simp [h1, h2]
        · rw [liveTo_succ hkl hx]
          exact .inr ⟨S'.next + 1, by simp; omega, by rw [Ins.live_n, hok.2], by simp [w4, m13, z6]; omega⟩
        · intro o ho
          cases ho
          exact ⟨hMn _ (by omega), by omega, by omega⟩
  · rintro S' ⟨hi, hkp, hn, q0, q1, q2, _⟩
    refine ⟨q2, hk _ (hkeep _ _ _ hi ⟨by simp, fun o ho hq => ?_⟩)⟩
    simp at hq; simp; intro h; omega
end Go.Proofs.YtchkknkjhiaooaaGreatDoor.Vm
namespace Go.Proofs.YtchkknkjhiaooaaGreatDoor.Vm
open Go Go.RowKit
variable {N : Nat} {g : Glob}
noncomputable def deadI (f : Fun) (b : Blk) (n : Nat) (x : Ins) : Bool := (decide (0 ≤ x.def) && !decide (x.kind = 7)) && !((f.at b (n + 1)).isB x.def && (f.at b (n + 1)).mem x.def.toNat)
noncomputable def revD (f : Fun) (b : Blk) : Nat → List Int
  | 0 => []
  | k + 1 => revD f b k ++ (match b.ins[b.ins.length - 1 - k]? with | some x => if deadI f b (b.ins.length - 1 - k) x = true then [x.id] else [] | none => [])
theorem revD_succ {f : Fun} {b : Blk} {k : Nat} {x : Ins} (h : b.ins[b.ins.length - 1 - k]? = some x) : revD f b (k + 1) = revD f b k ++ if deadI f b (b.ins.length - 1 - k) x = true then [x.id] else [] := by
  rw [revD, h]
theorem revD_len (f : Fun) (b : Blk) : ∀ k, (revD f b k).length ≤ k
  | 0 => Nat.le_refl _
  | k + 1 => by
    have := revD_len f b k
    rw [revD]
    split
    · split <;> simp <;> omega
    · simp; omega
noncomputable def deadB (f : Fun) (b : Blk) : List Int := revD f b b.ins.length
noncomputable def deadF (f : Fun) (j : Nat) : List Int := ((f.blks.take j).map (deadB f)).flatten
noncomputable def deadTo (p : Prg) (i : Nat) : List Int := ((p.funs.take i).map fun f => deadF f f.blks.length).flatten
noncomputable def Prg.dead (p : Prg) : List Int := sorted (deadTo p p.funs.length)
def DI (p : Prg) (D : List Int) (S : St) (bad : Nat → Prop) : Prop := 2 ≤ S.next ∧ S.obj 0 = some (.row 1 [[p.funsV]]) ∧ ∃ v, S.obj 1 = some (.row 1 [[v]]) ∧ Has intc 1 S v D ∧ Bel S v ∧ ∀ q c, v = .sl 1 q 0 c → 2 ≤ q ∧ ¬ bad q
theorem DI.keep {p : Prg} {D : List Int} {S S' : St} {bad bad' : Nat → Prop} (h : DI p D S bad) (hn : S.next ≤ S'.next) (h0 : S'.obj 0 = S.obj 0) (h1 : S'.obj 1 = S.obj 1) (hr : ∀ q, q < S.next → 2 ≤ q → ¬ bad q → IntRow S q → S'.obj q = S.obj q ∧ ¬ bad' q) : DI p D S' bad' := by
  obtain ⟨a, b, v, c, d, e, f⟩ := h
  refine ⟨by omega, by rw [h0]; exact b, v, by rw [h1]; exact c, d.keep fun q ⟨c, hc⟩ => ?_, e.mono hn, fun q c hc => ⟨(f q c hc).1, ?_⟩⟩
  all_goals
    have hi : IntRow S q := by
      rcases d with ⟨rfl, _⟩ | ⟨o, rfl, ho, hne⟩
      · cases hc
      · cases hc; exact ⟨D, hne, ho⟩
    have := hr q (e _ _ _ hc) (f q _ hc).1 (f q _ hc).2 hi
  · exact this.1
  · exact this.2
theorem dead_range {p : Prg} {f : Fun} {b : Blk} {LF : AFrame} {S : St} {q oi oa A : Nat} {D0 : List Int} {xA : AObj} {K : AV → St → Prop} (hb : b.ins.length ≤ 16) (hD : D0.length ≤ 2000) (l3 : LF 3 = .ptr 1 0 0)
    (hoi : oi < S.next) (hoa : oa < S.next) (hq : q < S.next) (hA : A < S.next) (h2 : 2 ≤ oi ∧ 2 ≤ oa ∧ 2 ≤ q ∧ 2 ≤ A) (hne : oi ≠ oa ∧ q ≠ oi ∧ q ≠ oa ∧ A ≠ q ∧ A ≠ oa) (sA : S.obj A = some xA) (hxA : ∀ l : List Int, l ≠ [] → xA ≠ .row 1 (els intc l))
    (si : S.obj oi = some (.row 1 [[b.insV]])) (sa : S.obj oa = some (.row 2 [[.int .i64 6, .fsl 1 (els u64c (bigOr (sol f.blks) b.out).ws)]])) (sq : S.obj q = some (.loop 67 #[39, 40] LF (rngA Tryz.f54 0) (rngB Tryz.f54 0) .ready))
    (hI : DI p D0 S fun _ => False) (hk : ∀ S', S'.obj q = some (.loop 67 #[39, 40] LF (rngA Tryz.f54 0) (rngB Tryz.f54 0) .ready) → S'.obj A = some xA → S.next ≤ S'.next → DI p (D0 ++ deadB f b) S' (fun _ => False) → K (.tuple []) S') :
    Cal P (gl N) 159 [.yield q, .ptr oi 0 0, .ptr oa 0 0] S K := by
  have hs0 := bigOr_ok (sol_good f.blks) b.out
  have hn6 : ((bigOr (sol f.blks) b.out).n : Int) = 6 := by rw [hs0.2]; rfl
  refine live_back2 (s0 := bigOr (sol f.blks) b.out) (sv := .fsl 1 (els u64c (bigOr (sol f.blks) b.out).ws)) rfl (fun _ _ h => by cases h) b.insS (by omega) hs0.1 (fun o => o = q ∨ o = 1)
    (fun k S' => S.next ≤ S'.next ∧ S'.obj q = some (.loop 67 #[39, 40] LF (rngA Tryz.f54 0) (rngB Tryz.f54 0) .ready) ∧ S'.obj A = some xA ∧ DI p (D0 ++ revD f b k) S' fun o => o = oa ∨ o = S.next + 1 + 1) ?_ (by omega) (by omega) hoi hoa hne.1 si (by rw [hn6]; exact sa) (.inl rfl) (fun o h => by cases h) ?_ ?_ ?_ ?_
  · rintro o (rfl | rfl)
    · exact hq
    · omega
  · rintro k S' S'' ⟨hn, h4, h5, hd⟩ hkp
    refine ⟨Nat.le_trans hn hkp.1, by rw [hkp.2 q (by omega) (by omega)]; exact h4, by rw [hkp.2 A (by omega) (by omega)]; exact h5, hd.keep hkp.1 (hkp.2 0 (by omega) (by omega)) (hkp.2 1 (by omega) (by omega)) fun o ho h2 hb hi => ⟨hkp.2 o ho hb, hb⟩⟩
  · refine ⟨Nat.le_refl _, sq, sA, ?_⟩
    have : D0 ++ revD f b 0 = D0 := by simp [revD]
    rw [this]
    refine hI.keep (Nat.le_refl _) rfl rfl fun o ho h2 hb hi => ⟨rfl, ?_⟩
    rintro (rfl | rfl)
    · exact IntRow.no sa (fun _ _ e => by cases e) hi
    · omega
  · rintro k x S' va vl hkl hx hn3 ⟨hn, h4, h5, hd⟩ hva hvl hvo K' hK'
    have hlo := liveTo_ok b.ins hs0.1 k
    simp
    refine Yie.in h4 (by simp) (by simp) c54A0 c54B0 ?_
    have m1 : ¬ q = S'.next := by omega
    have m2 : ¬ S'.next = q := by omega
    have m3 : ¬ q = S'.next + 1 := by omega
    have m4 : ¬ S'.next + 1 = q := by omega
    simp [k54A0, k54B0, puts, l3, h4, m1, m2, m3, m4, hva.one, hvl.one]
    generalize hS1 : (((((S'.new (AObj.row 11 [[AV.int IntKind.i64 0, AV.int IntKind.i64 0, AV.int IntKind.i64 0, AV.int IntKind.i64 0, AV.int IntKind.i64 0, AV.int IntKind.i64 0, AV.int IntKind.i64 0, AV.int IntKind.i64 0, AV.int IntKind.i64 0, AV.int IntKind.i64 0, AV.int IntKind.i64 0]])).set S'.next
      (AObj.row 11 [[AV.int IntKind.i64 x.id, AV.int IntKind.i64 x.kind, AV.int IntKind.i64 x.dst, AV.int IntKind.i64 x.a, AV.int IntKind.i64 x.b, AV.int IntKind.i64 x.c, AV.int IntKind.i64 x.f, AV.int IntKind.i64 x.n, AV.int IntKind.i64 x.x0, AV.int IntKind.i64 x.x1, AV.int IntKind.i64 x.x2]])).new
      (AObj.row 4 [[AV.int IntKind.i64 0, AV.nilsl, AV.int IntKind.i64 0, AV.nilsl]])).set (S'.next + 1) (AObj.row 4 [[AV.int IntKind.i64 ↑(bigOr (sol f.blks) b.out).n, va, AV.int IntKind.i64 ↑(bigOr (sol f.blks) b.out).n, vl]])).set q (AObj.loop 67 #[39, 40] LF (rngA Tryz.f54 0) (rngB Tryz.f54 0) LSt.busy)) = S1
    have n1 : S1.next = S'.next + 2 := by rw [← hS1]; simp
    have o1 : S1.obj S'.next = some (.row 11 [insc x]) := by rw [← hS1]; simp [m2]
    have o2 : S1.obj (S'.next + 1) = some (.row 4 [[.int .i64 (bigOr (sol f.blks) b.out).n, va, .int .i64 (bigOr (sol f.blks) b.out).n, vl]]) := by rw [← hS1]; simp [m4]
    have o3 : S1.obj q = some (.loop 67 #[39, 40] LF (rngA Tryz.f54 0) (rngB Tryz.f54 0) .busy) := by rw [← hS1]; simp
    have o4 : ∀ o, o < S'.next → o ≠ q → S1.obj o = S'.obj o := fun o ho hoq => by rw [← hS1]; simp [hoq, show ¬ o = S'.next by omega, show ¬ o = S'.next + 1 by omega]
    clear hS1
    have hva1 : IsRow S1 va (liveTo b.ins (bigOr (sol f.blks) b.out) k) := hva.grown (by omega) fun o ws ho hw => o4 o ho fun e => by rw [e, h4] at hw; cases hw
    have hd1 : DI p (D0 ++ revD f b k) S1 fun o => o = oa ∨ o = S.next + 1 + 1 := hd.keep (by omega) (o4 0 (by omega) (by omega)) (o4 1 (by omega) (by omega)) fun o ho h2 hb hi => ⟨o4 o ho (fun e => by obtain ⟨_, _, hi⟩ := hi; rw [e, h4] at hi; cases hi), hb⟩
    have hat : liveTo b.ins (bigOr (sol f.blks) b.out) k = f.at b (b.ins.length - 1 - k + 1) := by
      show (b.ins.drop (b.ins.length - k)).foldr Ins.live _ = (b.ins.drop (b.ins.length - 1 - k + 1)).foldr Ins.live _
      rw [show b.ins.length - 1 - k + 1 = b.ins.length - k by omega]
    obtain ⟨_, d0, v, d1, dH, dB, dq⟩ := id hd1
    have hrv := revD_succ (f := f) hx
    have noadd : deadI f b (b.ins.length - 1 - k) x = false → K' (.bool true) (S1.set q (.loop 67 #[39, 40] LF (rngA Tryz.f54 0) (rngB Tryz.f54 0) .ready)) := fun hno => by
      rw [hno] at hrv
      refine hK' _ ⟨by simp; omega, by simp, by simp [hne.2.2.2.1, o4 A (by omega) hne.2.2.2.1, h5], ?_⟩ ⟨by simp; omega, fun o ho hM => ?_⟩
      · rw [hrv]
        simp only [Bool.false_eq_true, if_false, List.append_nil]
        refine hd1.keep (by simp) (by simp [show ¬ 0 = q by omega]) (by simp [show ¬ 1 = q by omega]) fun o ho h2 hb hi => ⟨?_, hb⟩
        have : ¬ o = q := fun e => by obtain ⟨_, _, hi⟩ := hi; rw [e, o3] at hi; cases hi
        simp [this]
      · have h1 : ¬ o = q := fun e => hM (.inl (.inl e))
        simp [h1, o4 o ho h1]
    refine (instr_Def x).use (n := 9) (by rfl) rfl ?_
    simp
    refine gua_dec (fun h1 => ?_) (fun h1 => ?_) <;> simp [h1, o1]
    · by_cases h7 : x.kind = 7
      · simp [h7]
        exact ⟨o3, noadd (by simp [deadI, h7])⟩
      · have hix : pk (PK.indexAddrArr 2 2) [AV.ptr (S'.next + 1) 0 0, AV.int IntKind.i64 0] = some (.ptr (S'.next + 1) 0 0) := by simp [pk]
        simp [h7, hix, o2]
        refine (bits_Has (liveTo b.ins (bigOr (sol f.blks) b.out) k) x.def hlo.1).use (n := 9) (by simp [mapOpt, hva1.pict hlo.1, hlo.2]) rfl ?_
        rw [hat]
        cases hh : ((f.at b (b.ins.length - 1 - k + 1)).isB x.def && (f.at b (b.ins.length - 1 - k + 1)).mem x.def.toNat)
        · have hyes : deadI f b (b.ins.length - 1 - k) x = true := by simp only [deadI, hh]; simp [h1, h7]
          rw [hyes] at hrv
          simp [l3, d1, o1]
          have hrl := revD_len f b k
          have hvr : ∀ o c, v = .sl 1 o 0 c → IntRow S1 o := fun o c e => by
            rcases dH with ⟨rfl, _⟩ | ⟨o', rfl, ho', hne'⟩
            · cases e
            · cases e; exact ⟨_, hne', ho'⟩
          refine appV_own (e := intc) (x := x.id) (dH.new dB) (by simp [okEl, intc]) (by simp [room]; omega) fun S2 e1 e2 e3 => ?_
          simp at e2 e3
          have g1 : ∀ o, o < S1.next → ¬ IntRow S1 o → S2.obj o = S1.obj o := fun o ho hi => by
            have := e3 o (by omega) (fun c e => hi (hvr o c e))
            rw [this, if_neg (by omega)]
          have gq : S2.obj q = some (.loop 67 #[39, 40] LF (rngA Tryz.f54 0) (rngB Tryz.f54 0) .busy) := by rw [g1 q (by omega) (IntRow.no o3 fun _ _ e => by cases e)]; exact o3
          have gv : ∀ k n, v ≠ .int k n := fun k n e => by rcases dH with ⟨h, _⟩ | ⟨o', h, _⟩ <;> rw [h] at e <;> cases e
          have gd1 : S2.obj 1 = some (.row 1 [[v]]) := by rw [g1 1 (by omega) (IntRow.no d1 (row1_no gv))]; exact d1
          have gf : ∀ k n, p.funsV ≠ .int k n := fun k n e => by rcases p.funsS with h | ⟨h, _⟩ <;> rw [h] at e <;> cases e
          have gd0 : S2.obj 0 = some (.row 1 [[p.funsV]]) := by rw [g1 0 (by omega) (IntRow.no d0 (row1_no gf))]; exact d0
          have gA : S2.obj A = some xA := by
            have h5' : S1.obj A = some xA := by rw [o4 A (by omega) hne.2.2.2.1]; exact h5
            rw [g1 A (by omega) (IntRow.no h5' hxA)]; exact h5'
          simp [gd1, show ¬ q = 1 by omega, gq]
          refine hK' _ ⟨by simp; omega, by simp, by simp [hne.2.2.2.1, show ¬ A = 1 by omega, gA], ?_⟩ ⟨by simp; omega, fun o ho hM => ?_⟩
          · rw [hrv]
            simp only [if_true]
            refine ⟨by simp; omega, by simp [show ¬ 0 = q by omega, gd0], .sl 1 (S1.next + 1) 0 ((D0 ++ revD f b k).length + 1), by simp [show ¬ 1 = q by omega], ?_, Bel.sl (by simp; omega), fun q' c e => by cases e; omega⟩
            rw [← List.append_assoc]
            simp only [new_next] at e1
            refine e1.keep fun q' ⟨c, hc⟩ => ?_
            cases hc
            simp [show ¬ S1.next + 1 = q by omega, show ¬ S1.next = 0 by omega]
          · have h1 : ¬ o = q := fun e => hM (.inl (.inl e))
            have h2 : ¬ o = 1 := fun e => hM (.inl (.inr e))
            have h3 : ¬ IntRow S1 o := fun ⟨l, hl, h⟩ => hM (.inr ⟨l, hl, by rw [← o4 o ho h1]; exact h⟩)
            simp [h1, h2, g1 o (by omega) h3, o4 o ho h1]
        · simp
          exact ⟨o3, noadd (by simp only [deadI, hh]; simp)⟩
    · exact ⟨o3, noadd (by simp [deadI, h1])⟩
  · rintro S' ⟨hn, h4, h5, hd⟩
    exact hk S' h4 h5 hn (hd.keep (Nat.le_refl _) rfl rfl fun _ _ _ _ _ => ⟨rfl, fun h => h⟩)
theorem deadF_succ {f : Fun} {j : Nat} {b : Blk} (h : f.blks[j]? = some b) : deadF f (j + 1) = deadF f j ++ deadB f b := by
  rw [deadF, take_succ_get h]; simp [deadF]
theorem deadTo_succ {p : Prg} {i : Nat} {f : Fun} (h : p.funs[i]? = some f) : deadTo p (i + 1) = deadTo p i ++ deadF f f.blks.length := by
  rw [deadTo, take_succ_get h]; simp [deadTo]
theorem flatD_len {α β : Type} {g : α → List β} {m : Nat} : ∀ (l : List α), (∀ a ∈ l, (g a).length ≤ m) → (l.map g).flatten.length ≤ l.length * m
  | [], _ => by simp
  | a :: l, h => by
    have h1 := h a (by simp)
    have h2 := flatD_len l fun x hx => h x (by simp [hx])
    simp only [List.map_cons, List.flatten_cons, List.length_append, List.length_cons, Nat.add_mul, Nat.one_mul]
    omega
theorem deadF_len {p : Prg} {f : Fun} (h : FunOK p f) (j : Nat) : (deadF f j).length ≤ 192 := by
  have h1 := flatD_len (g := deadB f) (m := 16) (f.blks.take j) fun b hb => by
    have h2 := revD_len f b b.ins.length
    have h3 := (h.blk (List.mem_of_mem_take hb)).2.2.2.1
    exact Nat.le_trans h2 h3
  have h4 := h.len.2
  have h5 : (f.blks.take j).length ≤ 12 := by simp; omega
  have h6 : (f.blks.take j).length * 16 ≤ 12 * 16 := Nat.mul_le_mul_right _ h5
  exact Nat.le_trans h1 h6
theorem deadTo_len {p : Prg} (hs : p.sane = true) (i : Nat) : (deadTo p i).length ≤ 1152 := by
  have h1 := flatD_len (g := fun f => deadF f f.blks.length) (m := 192) (p.funs.take i) fun f hf => deadF_len (sane_ok hs (List.mem_of_mem_take hf)) _
  have h4 := (Prg.sane_iff.1 hs).1
  have h5 : (p.funs.take i).length ≤ 6 := by simp; omega
  have h6 : (p.funs.take i).length * 192 ≤ 6 * 192 := Nat.mul_le_mul_right _ h5
  exact Nat.le_trans h1 h6
theorem W.gen {c : VCode} {F : AFrame} {S : St} {Q : Res → Prop} (I : AFrame → Prop) (hF : I F) (h : ∀ F2, I F2 → W P g (.code c F2 S) Q) : W P g (.code c F S) Q := h F hF
theorem live_Dead (p : Prg) (hp : p.Fit) (hs : p.sane = true) : Ret P (gl N) false 54 [encP p] (encF intc 1 p.dead) := by
  refine Ret.in c54 (by simp) ?_
  simp [k54]
  refine (prog_Sane p hp).use (n := 9) (by simp [mapOpt, pict_stab p.funsS.stab]) (by simp [solids, AV.solid, p.funsS.solid]) ?_
  simp [hs, p.funsS.len]
  have hp6 : p.funs.length ≤ 6 := (Prg.sane_iff.1 hs).1
  refine W.whileI (fun (i : Nat) F S => i ≤ p.funs.length ∧ F 1 = .ptr 0 0 0 ∧ F 3 = .ptr 1 0 0 ∧ F 15 = p.funsV ∧ F 16 = .int .i64 p.funs.length ∧ F 17 = .int .i64 i ∧ DI p (deadTo p i) S fun _ => False) (fun i => p.funs.length - i) ?_ 0 _ _ ?_
  · rintro i F S ⟨hi, f1, f3, f15, f16, f17, hd⟩
    by_cases hlt : i < p.funs.length
    · have e4 := wrapS i (by omega)
      obtain ⟨f, hfi⟩ : ∃ f, p.funs[i]? = some f := ⟨_, List.getElem?_eq_getElem hlt⟩
      have hf : p.fn (i : Int) = some f := by
        unfold Prg.fn
        rw [if_pos ⟨by omega, hs⟩]; exact hfi
      have hok := fn_ok hf
      have hof : FSl setc 2 (encF setc 2 (outsOf f.blks)) (outsOf f.blks) := encF_sl
      have hol : (outsOf f.blks).length = f.blks.length := by simp [outsOf]
      obtain ⟨dn, d0, v, d1, dH, dB, dq⟩ := id hd
      simp [f16, f17, hlt]
      simp [f1, f15, f17, p.funsS.idx hfi, d0, show ¬ 0 = S.next by omega]
      refine (live_Out p i hp hf).use (n := 9) (by simp [mapOpt, pict_stab p.funsS.stab]) (by simp [solids, AV.solid, p.funsS.solid]) ?_
      simp [hof.len, hol]
      have hl12 := hok.len
      have hdl := deadTo_len hs i
      refine W.whileI (fun (j : Nat) F' S' => j ≤ f.blks.length ∧ F' 1 = .ptr 0 0 0 ∧ F' 3 = .ptr 1 0 0 ∧ F' 15 = p.funsV ∧ F' 16 = .int .i64 p.funs.length ∧ F' 17 = .int .i64 i ∧ F' 5 = .ptr S.next 0 0 ∧ F' 24 = encF setc 2 (outsOf f.blks) ∧ F' 25 = .int .i64 f.blks.length ∧ F' 26 = .int .i64 j ∧ S.next < S'.next ∧ S'.obj S.next = some (.row 3 [func f]) ∧ DI p (deadTo p i ++ deadF f j) S' fun _ => False) (fun j => f.blks.length - j) ?_ 0 _ _ ?_
      · rintro j F' S' ⟨hj, f1, f3, f15, f16, f17, f5, f24, f25, f26, hn', hA, hd'⟩
        by_cases hltj : j < f.blks.length
        · have e5 := wrapS j (by omega)
          obtain ⟨b, hb⟩ : ∃ b, f.blks[j]? = some b := ⟨_, List.getElem?_eq_getElem hltj⟩
          have hoj : (outsOf f.blks)[j]? = some (bigOr (sol f.blks) b.out) := by simp only [outsOf, List.getElem?_map, hb]; rfl
          have hog := bigOr_ok (sol_good f.blks) b.out
          simp [f25, f26, hltj]
          simp [f24, f26, hof.idx hoj]
          generalize hS1 : (S'.new (.row 2 [[.int .i64 0, .nilsl]])).set S'.next (.row 2 [[.int .i64 ((bigOr (sol f.blks) b.out).n : Int), .fsl 1 (els u64c (bigOr (sol f.blks) b.out).ws)]]) = S1
          have n1 : S1.next = S'.next + 1 := by rw [← hS1]; simp
          have o1 : S1.obj S'.next = some (.row 2 [[.int .i64 ((bigOr (sol f.blks) b.out).n : Int), .fsl 1 (els u64c (bigOr (sol f.blks) b.out).ws)]]) := by rw [← hS1]; simp
          have o2 : ∀ o, o < S'.next → S1.obj o = S'.obj o := fun o ho => by rw [← hS1]; simp [show ¬ o = S'.next by omega]
          have hA1 : S1.obj S.next = some (.row 3 [func f]) := by rw [o2 _ hn']; exact hA
          clear hS1
          refine Dra.auto [7] mix ?_ ?_
          · kernel_rfl
          simp [classes, f5, o1, hA1, f.blksS.idx hb]
          refine ⟨.func (.func 159) [] [.ptr (S1.next + 1) 0 0, .ptr S1.next 0 0], (S1.new (.row 2 [[.int .i64 ((bigOr (sol f.blks) b.out).n : Int), .fsl 1 (els u64c (bigOr (sol f.blks) b.out).ws)]])).new (.row 1 [[b.insV]]), live_back b.insS.cells (by simp) ⟨rfl, rfl⟩, ?_⟩
          refine ⟨fun _ _ h => by (cases h), ?_⟩
          simp
          refine W.gen (fun F2 => F2 1 = .ptr 0 0 0 ∧ F2 3 = .ptr 1 0 0 ∧ F2 15 = p.funsV ∧ F2 16 = .int .i64 p.funs.length ∧ F2 17 = .int .i64 i ∧ F2 5 = .ptr S.next 0 0 ∧ F2 24 = encF setc 2 (outsOf f.blks) ∧ F2 25 = .int .i64 f.blks.length ∧ F2 26 = .int .i64 j ∧ F2 38 = .func (.func 159) [] [.ptr (S1.next + 1) 0 0, .ptr S1.next 0 0]) (by simp [f1, f3, f15, f16, f17, f5, f24, f25, f26]) ?_
          clear f1 f3 f15 f16 f17 f5 f24 f25 f26
          rintro LF ⟨f1, f3, f15, f16, f17, f5, f24, f25, f26, f38⟩
          refine W.rangeC (f := 159) (captured := [.ptr (S1.next + 1) 0 0, .ptr S1.next 0 0]) (by simp [f38]) ?_
          simp
          generalize hS3 : ((S1.new (.row 2 [[.int .i64 ((bigOr (sol f.blks) b.out).n : Int), .fsl 1 (els u64c (bigOr (sol f.blks) b.out).ws)]])).new (.row 1 [[b.insV]])).new (.loop 67 #[39, 40] LF (rngA Tryz.f54 0) (rngB Tryz.f54 0) .ready) = S3
          have n3 : S3.next = S1.next + 3 := by rw [← hS3]; simp
          have oq : S3.obj (S1.next + 1 + 1) = some (.loop 67 #[39, 40] LF (rngA Tryz.f54 0) (rngB Tryz.f54 0) .ready) := by rw [← hS3]; simp
          have oI : S3.obj (S1.next + 1) = some (.row 1 [[b.insV]]) := by rw [← hS3]; simp
          have oA : S3.obj S1.next = some (.row 2 [[.int .i64 6, .fsl 1 (els u64c (bigOr (sol f.blks) b.out).ws)]]) := by
            rw [← hS3, hog.2]; simp [show ¬ S1.next = S1.next + 1 + 1 by omega]
          have oo : ∀ o, o < S1.next → S3.obj o = S1.obj o := fun o ho => by rw [← hS3]; simp [show ¬ o = S1.next by omega, show ¬ o = S1.next + 1 by omega, show ¬ o = S1.next + 1 + 1 by omega]
          clear hS3
          have hbl : b.ins.length ≤ 16 := (hok.blk (List.mem_of_getElem? hb)).2.2.2.1
          have hdf := deadF_len hok j
          refine dead_range (p := p) (f := f) (b := b) (D0 := deadTo p i ++ deadF f j) (A := S.next) (xA := .row 3 [func f]) hbl (by simp; omega) f3 (by omega) (by omega) (by omega) (by omega) (by omega) (by omega) (by rw [oo _ (by omega)]; exact hA1) (fun l hl e => by cases e) oI oA oq ?_ ?_
          · refine hd'.keep (by omega) (by rw [oo 0 (by omega), o2 0 (by omega)]) (by rw [oo 1 (by omega), o2 1 (by omega)]) fun o ho _ _ _ => ⟨by rw [oo o (by omega), o2 o ho], fun h => h⟩
          · intro S4 h4 hA4 hn4 hd4
            refine ⟨h4, ?_⟩
            simp [f26, e5]
            refine ⟨j + 1, by omega, by omega, f1, f3, f15, f16, f17, f5, f24, f25, by omega, by omega, ⟨by omega, hA4⟩, ?_⟩
            rw [deadF_succ hb, ← List.append_assoc]
            refine hd4.keep (by simp) (by simp [show ¬ 0 = S1.next + 1 + 1 by omega]) (by simp [show ¬ 1 = S1.next + 1 + 1 by omega]) fun o ho _ _ hi => ⟨?_, fun h => h⟩
            have : ¬ o = S1.next + 1 + 1 := fun e => IntRow.no h4 (fun _ _ e => by cases e) (e ▸ hi)
            simp [this]
        · have : j = f.blks.length := by omega
          subst this
          simp [f25, f26, f1, f3, f15, f16, f17, e4]
          exact ⟨i + 1, by omega, by omega, by omega, by rw [deadTo_succ hfi]; exact hd'⟩
      · simp [f1, f3, f15, f16, f17]
        have e0 : deadTo p i ++ deadF f 0 = deadTo p i := by simp [deadF]
        rw [e0]
        exact hd.keep (by simp) (by simp [show ¬ 0 = S.next by omega]) (by simp [show ¬ 1 = S.next by omega]) fun q hq _ _ _ => ⟨by simp [show ¬ q = S.next by omega], fun h => h⟩
    · have : i = p.funs.length := by omega
      subst this
      obtain ⟨dn, d0, v, d1, dH, dB, dq⟩ := id hd
      simp [f16, f17, f3, d1]
      have hle := deadTo_len hs p.funs.length
      refine slices_Sort dH (by omega) fun S' e1 e2 e3 => ?_
      have g1 : S'.obj 1 = some (.row 1 [[v]]) := by
        rw [e3 1 fun c e => by have := (dq 1 c e).1; omega]; exact d1
      simp [f3, g1]
      exact ⟨9, e1.pict (n := 7)⟩
  · simp
    refine ⟨by simp, by simp, .nilsl, by simp, .inl ⟨rfl, rfl⟩, Bel.nil, fun _ _ h => by cases h⟩
end Go.Proofs.YtchkknkjhiaooaaGreatDoor.Vm
namespace Go.Proofs.YtchkknkjhiaooaaGreatDoor.Vm
open Go Go.RowKit
variable {N : Nat} {g : Glob}
theorem ids_order {p : Prg} (hs : p.sane = true) {i b k i' b' k' : Nat} {f f' : Fun} {B B' : Blk} {x x' : Ins} (hf : p.funs[i]? = some f) (hB : f.blks[b]? = some B) (hx : B.ins[k]? = some x)
    (hf' : p.funs[i']? = some f') (hB' : f'.blks[b']? = some B') (hx' : B'.ins[k']? = some x') (hlt : i' < i ∨ (i' = i ∧ (b' < b ∨ (b' = b ∧ k' < k)))) : x.id ≠ x'.id := by
  have hnd := (Prg.sane_iff.1 hs).2.2
  have h1 := (ids_part hf hB (k + 1)).nodup hnd
  rw [Blk.idsTo_succ hx, ← List.append_assoc, ← List.append_assoc, List.nodup_append] at h1
  intro he
  refine h1.2.2 x'.id ?_ x.id (by simp) he.symm
  rcases hlt with h | ⟨rfl, h⟩
  · refine List.mem_append_left _ (List.mem_append_left _ ?_)
    unfold Prg.idsTo
    rw [List.mem_flatten]
    refine ⟨f'.ids, List.mem_map.2 ⟨f', ?_, rfl⟩, ?_⟩
    · have : (p.funs.take i)[i']? = some f' := by rw [List.getElem?_take_of_lt h]; exact hf'
      exact List.mem_of_getElem? this
    · unfold Fun.ids
      rw [List.mem_flatten]
      exact ⟨B'.ids, List.mem_map.2 ⟨B', List.mem_of_getElem? hB', rfl⟩, List.mem_map.2 ⟨x', List.mem_of_getElem? hx', rfl⟩⟩
  · rw [hf] at hf'; cases hf'
    rcases h with h | ⟨rfl, h⟩
    · refine List.mem_append_left _ (List.mem_append_right _ ?_)
      unfold Fun.idsTo
      rw [List.mem_flatten]
      refine ⟨B'.ids, List.mem_map.2 ⟨B', ?_, rfl⟩, List.mem_map.2 ⟨x', List.mem_of_getElem? hx', rfl⟩⟩
      have : (f.blks.take b)[b']? = some B' := by rw [List.getElem?_take_of_lt h]; exact hB'
      exact List.mem_of_getElem? this
    · refine List.mem_append_right _ ?_
      rw [hB] at hB'; cases hB'
      unfold Blk.idsTo
      refine List.mem_map.2 ⟨x', ?_, rfl⟩
      have : (B.ins.take k)[k']? = some x' := by rw [List.getElem?_take_of_lt h]; exact hx'
      exact List.mem_of_getElem? this
theorem revD_mem {f : Fun} {b : Blk} {y : Int} : ∀ k, k ≤ b.ins.length → (y ∈ revD f b k ↔ ∃ n x, b.ins.length - k ≤ n ∧ b.ins[n]? = some x ∧ deadI f b n x = true ∧ x.id = y)
  | 0, _ => by
    simp only [revD, List.not_mem_nil, false_iff]
    rintro ⟨n, x, h1, h2, _⟩
    have := (List.getElem?_eq_some_iff.1 h2).1
    omega
  | k + 1, hk => by
    have hn : b.ins.length - 1 - k < b.ins.length := by omega
    have hx := List.getElem?_eq_getElem hn
    rw [revD_succ hx, List.mem_append, revD_mem k (by omega)]
    constructor
    · rintro (⟨n, x, h1, h2⟩ | h)
      · exact ⟨n, x, by omega, h2⟩
      · split at h
        · rename_i hd
          simp only [List.mem_singleton] at h
          exact ⟨_, _, by omega, hx, hd, h.symm⟩
        · cases h
    · rintro ⟨n, x, h1, h2, h3, h4⟩
      by_cases h : n = b.ins.length - 1 - k
      · subst h
        rw [hx] at h2; cases h2
        right; rw [if_pos h3]; simp [h4]
      · exact .inl ⟨n, x, by omega, h2, h3, h4⟩
theorem deadTo_mem {p : Prg} {y : Int} : y ∈ deadTo p p.funs.length ↔ ∃ (i b k : Nat) (f : Fun) (B : Blk) (x : Ins), p.funs[i]? = some f ∧ f.blks[b]? = some B ∧ B.ins[k]? = some x ∧ deadI f B k x = true ∧ x.id = y := by
  unfold deadTo deadF
  simp only [List.take_length, List.mem_flatten, List.mem_map]
  constructor
  · rintro ⟨_, ⟨f, hf, rfl⟩, h⟩
    rw [List.mem_flatten] at h
    obtain ⟨_, h, hy⟩ := h
    obtain ⟨B, hB, rfl⟩ := List.mem_map.1 h
    obtain ⟨i, hi⟩ := List.mem_iff_getElem?.1 hf
    obtain ⟨b, hb⟩ := List.mem_iff_getElem?.1 hB
    obtain ⟨k, x, _, h2, h3, h4⟩ := (revD_mem _ (Nat.le_refl _)).1 hy
    exact ⟨i, b, k, f, B, x, hi, hb, h2, h3, h4⟩
  · rintro ⟨i, b, k, f, B, x, hi, hb, hx, hd, he⟩
    refine ⟨_, ⟨f, List.mem_of_getElem? hi, rfl⟩, ?_⟩
    rw [List.mem_flatten]
    exact ⟨_, List.mem_map.2 ⟨B, List.mem_of_getElem? hb, rfl⟩, (revD_mem _ (Nat.le_refl _)).2 ⟨k, x, by omega, hx, hd, he⟩⟩
theorem dead_mem {p : Prg} (hs : p.sane = true) {i b k : Nat} {f : Fun} {B : Blk} {x : Ins} (hf : p.funs[i]? = some f) (hB : f.blks[b]? = some B) (hx : B.ins[k]? = some x) : x.id ∈ p.dead ↔ deadI f B k x = true := by
  unfold Prg.dead sorted
  rw [List.mem_mergeSort, deadTo_mem]
  constructor
  · rintro ⟨i', b', k', f', B', x', h1, h2, h3, h4, h5⟩
    have n1 : ¬ (i' < i ∨ (i' = i ∧ (b' < b ∨ (b' = b ∧ k' < k)))) := fun h => ids_order hs hf hB hx h1 h2 h3 h h5.symm
    have n2 : ¬ (i < i' ∨ (i = i' ∧ (b < b' ∨ (b = b' ∧ k < k')))) := fun h => ids_order hs h1 h2 h3 hf hB hx h h5
    have e1 : i' = i := by omega
    subst e1
    rw [hf] at h1; cases h1
    have e2 : b' = b := by omega
    subst e2
    rw [hB] at h2; cases h2
    have e3 : k' = k := by omega
    subst e3
    rw [hx] at h3; cases h3
    exact h4
  · intro h
    exact ⟨i, b, k, f, B, x, hf, hB, hx, h, rfl⟩
theorem revD_perm (f : Fun) (b : Blk) : ∀ k, k ≤ b.ins.length → ∃ l, (revD f b k).Perm l ∧ l.Sublist ((b.ins.drop (b.ins.length - k)).map Ins.id)
  | 0, _ => ⟨[], by simp [revD], by simp⟩
  | k + 1, hk => by
    obtain ⟨l, h1, h2⟩ := revD_perm f b k (by omega)
    have hn : b.ins.length - 1 - k < b.ins.length := by omega
    have hx := List.getElem?_eq_getElem hn
    have hd : b.ins.drop (b.ins.length - (k + 1)) = b.ins[b.ins.length - 1 - k] :: b.ins.drop (b.ins.length - k) := by
      rw [show b.ins.length - (k + 1) = b.ins.length - 1 - k by omega, List.drop_eq_getElem_cons hn, show b.ins.length - 1 - k + 1 = b.ins.length - k by omega]
    rw [revD_succ hx, hd, List.map_cons]
    split
    · exact ⟨_ :: l, (List.perm_append_comm).trans (List.Perm.cons _ h1), h2.cons_cons _⟩
    · exact ⟨l, by simpa using h1, h2.cons _⟩
theorem flat_perm {α β : Type} {g h : α → List β} : ∀ (L : List α), (∀ a ∈ L, ∃ l, (g a).Perm l ∧ l.Sublist (h a)) → ∃ l, ((L.map g).flatten).Perm l ∧ l.Sublist ((L.map h).flatten)
  | [], _ => ⟨[], by simp, by simp⟩
  | a :: L, hyp => by
    obtain ⟨l1, p1, s1⟩ := hyp a (by simp)
    obtain ⟨l2, p2, s2⟩ := flat_perm L fun x hx => hyp x (by simp [hx])
    exact ⟨l1 ++ l2, by simpa using p1.append p2, by simpa using s1.append s2⟩
theorem dead_perm (p : Prg) : ∃ l, (deadTo p p.funs.length).Perm l ∧ l.Sublist p.ids := by
  unfold deadTo Prg.ids
  rw [List.take_length]
  refine flat_perm p.funs fun f _ => ?_
  unfold deadF Fun.ids
  rw [List.take_length]
  refine flat_perm f.blks fun B _ => ?_
  obtain ⟨l, h1, h2⟩ := revD_perm f B B.ins.length (Nat.le_refl _)
  exact ⟨l, h1, by simpa [Blk.ids] using h2⟩
theorem dead_up {p : Prg} (hs : p.sane = true) {k : Nat} {a b : Int} (ha : p.dead[k]? = some a) (hb : p.dead[k + 1]? = some b) : a < b := by
  obtain ⟨l, h1, h2⟩ := dead_perm p
  have hn : (deadTo p p.funs.length).Nodup := h1.nodup_iff.2 (h2.nodup (Prg.sane_iff.1 hs).2.2)
  have hn2 : p.dead.Nodup := (List.mergeSort_perm _ _).nodup_iff.2 hn
  have hp : p.dead.Pairwise fun x y => decide (x ≤ y) = true := List.pairwise_mergeSort (fun a b c h1 h2 => by simp at *; omega) (fun a b => by simp; omega) _
  obtain ⟨ka, ea⟩ := List.getElem?_eq_some_iff.1 ha
  obtain ⟨kb, eb⟩ := List.getElem?_eq_some_iff.1 hb
  have h3 := List.pairwise_iff_getElem.1 hp k (k + 1) ka kb (by omega)
  have h4 := List.pairwise_iff_getElem.1 hn2 k (k + 1) ka kb (by omega)
  rw [ea, eb] at h3 h4
  simp at h3
  omega
noncomputable def cntD (f : Fun) (b : Blk) : Nat → Nat
  | 0 => 0
  | k + 1 => cntD f b k + match b.ins[k]? with | some x => if deadI f b k x = true then 1 else 0 | none => 0
theorem cntD_succ {f : Fun} {b : Blk} {k : Nat} {x : Ins} (h : b.ins[k]? = some x) : cntD f b (k + 1) = cntD f b k + if deadI f b k x = true then 1 else 0 := by
  rw [cntD, h]
theorem cntD_le (f : Fun) (b : Blk) : ∀ k, cntD f b k ≤ k
  | 0 => Nat.le_refl _
  | k + 1 => by
    have := cntD_le f b k
    rw [cntD]
    split
    · split <;> omega
    · omega
theorem cntD_rev (f : Fun) (b : Blk) : ∀ k, k ≤ b.ins.length → cntD f b (b.ins.length - k) + (revD f b k).length = cntD f b b.ins.length
  | 0, _ => by simp [revD]
  | k + 1, hk => by
    have h := cntD_rev f b k (by omega)
    have hn : b.ins.length - 1 - k < b.ins.length := by omega
    have hx := List.getElem?_eq_getElem hn
    have h2 := cntD_succ (f := f) hx
    rw [show b.ins.length - 1 - k + 1 = b.ins.length - k by omega] at h2
    rw [revD_succ hx, show b.ins.length - (k + 1) = b.ins.length - 1 - k by omega, List.length_append]
    rw [h2] at h
    split at h <;> rename_i hd
    · rw [if_pos hd]; simp; omega
    · rw [if_neg hd]; simp; omega
theorem cntD_all (f : Fun) (b : Blk) : cntD f b b.ins.length = (deadB f b).length := by
  have h := cntD_rev f b b.ins.length (Nat.le_refl _)
  rw [Nat.sub_self] at h
  unfold deadB
  simp [cntD] at h
  exact h.symm
end Go.Proofs.YtchkknkjhiaooaaGreatDoor.Vm
namespace Go.Proofs.YtchkknkjhiaooaaGreatDoor.Vm
open Go Go.RowKit
variable {N : Nat} {g : Glob}
structure LdI (p : Prg) (F : AFrame) (S : St) : Prop where
  f1 : F 1 = .ptr 0 0 0
  f3 : F 3 = .bool true
  f4 : F 4 = encF intc 1 p.dead
  s0 : S.obj 0 = some (.row 1 [[p.funsV]])
  n : 0 < S.next
theorem LdI.up {p : Prg} {F F' : AFrame} {S S' : St} (h : LdI p F S) (h1 : F' 1 = F 1) (h3 : F' 3 = F 3) (h4 : F' 4 = F 4) (h0 : S'.obj 0 = S.obj 0) (hn : S.next ≤ S'.next) : LdI p F' S' :=
  ⟨by rw [h1]; exact h.f1, by rw [h3]; exact h.f3, by rw [h4]; exact h.f4, by rw [h0]; exact h.s0, by have := h.n; omega⟩
set_option maxHeartbeats 1000000 in
theorem law_LiveDead (p : Prg) : Ret P (gl N) false 10 [encP p] (.bool true) := by
  refine Ret.in c10 (by simp) ?_
  simp [k10]
  refine (awake_ret).use (n := 9) (by rfl) rfl ?_
  simp
  refine (ref06_Few p).use (n := 9) (by simp [mapOpt, pict_stab p.funsS.stab]) (by simp [solids, AV.solid, p.funsS.solid]) ?_
  cases hfew : p.few
  · simp
    exact RK.eq rfl rfl
  have hp := Prg.few_fit hfew
  simp
  refine (prog_Sane p hp).use (n := 9) (by simp [mapOpt, pict_stab p.funsS.stab]) (by simp [solids, AV.solid, p.funsS.solid]) ?_
  cases hsane : p.sane
  · simp
    exact RK.eq rfl rfl
  simp
  have hdl : p.dead.length ≤ 1152 := by
    have := deadTo_len hsane p.funs.length
    unfold Prg.dead
    rw [sorted_len]; exact this
  have hdS : FSl intc 1 (encF intc 1 p.dead) p.dead := encF_sl
  have hp6 : p.funs.length ≤ 6 := (Prg.sane_iff.1 hsane).1
  refine (live_Dead p hp hsane).use (n := 9) (by simp [mapOpt, pict_stab p.funsS.stab]) (by simp [solids, AV.solid, p.funsS.solid]) ?_
  simp
  refine W.whileI (fun (k : Nat) F S => k ≤ p.dead.length ∧ F 5 = .int .i64 k ∧ LdI p F S) (fun k => p.dead.length - k) ?_ 0 _ _ ?_
  · rintro k F S ⟨hk, f5, hI⟩
    have f1 := hI.f1
    have f3 := hI.f3
    have f4 := hI.f4
    have s0 := hI.s0
    simp [f4, f5, hdS.len]
    by_cases hlt : k < p.dead.length
    · have e4 := wrapS k (by omega)
      obtain ⟨y, hy⟩ : ∃ y, p.dead[k]? = some y := ⟨_, List.getElem?_eq_getElem hlt⟩
      simp [hlt]
      refine Dra.auto [] mix ?_ ?_
      · kernel_rfl
      simp [classes, f5]
      cases k with
      | zero =>
        have e1 : IntKind.i64.wrap 1 = 1 := rfl
        simp [f5, f4, e1]
        exact ⟨1, by omega, by omega, by omega, hI.up rfl rfl rfl rfl (Nat.le_refl _)⟩
      | succ m =>
        obtain ⟨z, hz⟩ : ∃ z, p.dead[m]? = some z := ⟨_, List.getElem?_eq_getElem (by omega)⟩
        have hzy := dead_up hsane hz hy
        have e8 : IntKind.i64.wrap ((m : Int) + 1 - 1) = (m : Int) := by rw [wrap_in (by omega)]; omega
        have e9 : IntKind.i64.wrap (m : Int) = (m : Int) := wrap_in (by omega)
        have hy2 := hdS.idx hy
        simp at hy2
        simp [f4, f5, hy2, hdS.idx hz, e8, e9, intc]
        have e10 : IntKind.i64.wrap ((m : Int) + 1 + 1) = (m : Int) + 1 + 1 := wrap_in (by omega)
        refine bra_dec (fun h => absurd h (by omega)) (fun h => ?_)
        simp [f5, e10]
        exact ⟨m + 1 + 1, by omega, by omega, by omega, hI.up rfl rfl rfl rfl (Nat.le_refl _)⟩
    · have : k = p.dead.length := by omega
      subst this
      simp
      refine W.whileI (fun (i : Nat) F S => i ≤ p.funs.length ∧ F 7 = .int .i64 i ∧ F 6 = .int .i64 (deadTo p i).length ∧ LdI p F S) (fun i => p.funs.length - i) ?_ 0 _ _ ?_
      · clear f1 f3 f4 f5 s0 hI
        rintro i F S ⟨hi, f7, f6, hI⟩
        have f1 := hI.f1
        have f3 := hI.f3
        have f4 := hI.f4
        have s0 := hI.s0
        simp [f1, f7, s0, p.funsS.len]
        by_cases hlti : i < p.funs.length
        · have e4 := wrapS i (by omega)
          obtain ⟨f, hfi⟩ : ∃ f, p.funs[i]? = some f := ⟨_, List.getElem?_eq_getElem hlti⟩
          have hf : p.fn (i : Int) = some f := by
            unfold Prg.fn
            rw [if_pos ⟨by omega, hsane⟩]; exact hfi
          have hok := fn_ok hf
          have hl := hok.len
          have hdt := deadTo_len hsane i
          simp [hlti]
          refine W.whileI (fun (b : Nat) F S => b ≤ f.blks.length ∧ F 7 = .int .i64 i ∧ F 8 = .int .i64 b ∧ F 6 = .int .i64 ((deadTo p i).length + (deadF f b).length : Nat) ∧ LdI p F S) (fun b => f.blks.length - b) ?_ 0 _ _ ?_
          · clear f1 f3 f4 f6 f7 s0 hI
            rintro b F S ⟨hb, f7, f8, f6, hI⟩
            have f1 := hI.f1
            have f3 := hI.f3
            have f4 := hI.f4
            have s0 := hI.s0
            simp [f1, f7, f8, s0, p.funsS.idx hfi, f.blksS.len]
            by_cases hltb : b < f.blks.length
            · have e5 := wrapS b (by omega)
              obtain ⟨B, hB⟩ : ∃ B, f.blks[b]? = some B := ⟨_, List.getElem?_eq_getElem hltb⟩
              have hBk := hok.blk (List.mem_of_getElem? hB)
              have hBl : B.ins.length ≤ 16 := hBk.2.2.2.1
              have hdb := deadF_len hok b
              simp [hltb]
              refine W.whileI (fun (n : Nat) F S => n ≤ B.ins.length ∧ F 7 = .int .i64 i ∧ F 8 = .int .i64 b ∧ F 9 = .int .i64 n ∧ F 6 = .int .i64 ((deadTo p i).length + (deadF f b).length + cntD f B n : Nat) ∧ LdI p F S) (fun n => B.ins.length - n) ?_ 0 _ _ ?_
              · clear f1 f3 f4 f6 f7 f8 s0 hI
                rintro n F S ⟨hn, f7, f8, f9, f6, hI⟩
                have f1 := hI.f1
                have f3 := hI.f3
                have f4 := hI.f4
                have s0 := hI.s0
                simp [f1, f7, f8, f9, s0, p.funsS.idx hfi, f.blksS.idx hB, B.insS.len]
                by_cases hltn : n < B.ins.length
                · have e6 := wrapS n (by omega)
                  obtain ⟨x, hx⟩ : ∃ x, B.ins[n]? = some x := ⟨_, List.getElem?_eq_getElem hltn⟩
                  have hon : B.on = true := by
                    cases hon : B.on
                    · have := (hBk.1 hon).1
                      rw [this] at hltn; simp at hltn
                    · rfl
                  have hmem := dead_mem hsane hfi hB hx
                  have hat : p.at (i : Int) b ((n + 1 : Nat) : Int) = f.at B (n + 1) := at_blk hf hB hon (by omega)
                  have hcl := cntD_le f B n
                  have hcs := cntD_succ (f := f) hx
                  have e7 : IntKind.i64.wrap (((deadTo p i).length : Int) + (deadF f b).length + cntD f B n + 1) = ((deadTo p i).length : Int) + (deadF f b).length + cntD f B n + 1 := wrap_in (by omega)
                  have z0 : ¬ 0 = S.next := by have := hI.n; omega
                  simp [hltn, f1, f7, f8, f9, s0, p.funsS.idx hfi, f.blksS.idx hB, B.insS.idx hx, z0]
                  refine (instr_Def x).use (n := 9) (by rfl) rfl ?_
                  simp [f4]
                  refine (ref10_Has _ x.id _ hdS (by omega)).use (n := 9) (by simp [mapOpt, pict_stab hdS.stab]) rfl ?_
                  cases hdi : deadI f B n x
                  · have hno : ¬ x.id ∈ p.dead := fun h => by rw [hmem.1 h] at hdi; cases hdi
                    rw [hdi] at hcs
                    simp only [Bool.false_eq_true, if_false, Nat.add_zero] at hcs
                    simp [hno]
                    by_cases hd : 0 ≤ x.def
                    · by_cases h7 : x.kind = 7
                      · simp [hd, h7]
                        simp [f7, f8, f9, f6, e6]
                        exact ⟨n + 1, by omega, by omega, by omega, by rw [hcs], hI.up rfl rfl rfl (by simp [z0]) (by simp)⟩
                      · have hlv : ((f.at B (n + 1)).isB x.def && (f.at B (n + 1)).mem x.def.toNat) = true := by
                          unfold deadI at hdi
                          simpa [hd, h7] using hdi
                        simp [hd, h7, f1, f7, f8, f9, s0, z0, e6]
                        refine (live_Is p i b ((n + 1 : Nat) : Int) x.def hp).use (n := 9) (by simp [mapOpt, pict_stab p.funsS.stab]) rfl ?_
                        rw [hat, hlv]
                        simp
                        simp [f7, f8, f9, f6, e6]
                        exact ⟨n + 1, by omega, by omega, by omega, by rw [hcs], hI.up rfl rfl rfl (by simp [z0]) (by simp)⟩
                    · simp [hd]
                      simp [f7, f8, f9, f6, e6]
                      exact ⟨n + 1, by omega, by omega, by omega, by rw [hcs], hI.up rfl rfl rfl (by simp [z0]) (by simp)⟩
                  · have hyes : x.id ∈ p.dead := hmem.2 hdi
                    rw [hdi] at hcs
                    simp only [if_true] at hcs
                    have hdi' := hdi
                    unfold deadI at hdi'
                    simp only [Bool.and_eq_true, decide_eq_true_eq, Bool.not_eq_true', decide_eq_false_iff_not] at hdi'
                    obtain ⟨⟨hd, h7⟩, hlv⟩ := hdi'
                    simp [hyes, f6, e7]
                    simp [hd, h7, show ¬ x.def < 0 by omega, f1, f7, f8, f9, s0, z0, e6]
                    refine (live_Is p i b ((n + 1 : Nat) : Int) x.def hp).use (n := 9) (by simp [mapOpt, pict_stab p.funsS.stab]) rfl ?_
                    rw [hat, hlv]
                    simp
                    simp [f7, f8, f9, e6]
                    exact ⟨n + 1, by omega, by omega, by omega, by rw [hcs]; simp; omega, hI.up rfl rfl rfl (by simp [z0]) (by simp)⟩
                · have : n = B.ins.length := by omega
                  subst this
                  simp [f1, f3, f4, f6, f7, f8, e5]
                  refine ⟨b + 1, by omega, by omega, by omega, ?_, hI.up rfl rfl rfl rfl (Nat.le_refl _)⟩
                  rw [deadF_succ hB, List.length_append, cntD_all]
                  simp; omega
              · simp [f1, f3, f4, f6, f7, f8, cntD]
                exact hI.up rfl rfl rfl rfl (Nat.le_refl _)
            · have : b = f.blks.length := by omega
              subst this
              simp [f1, f3, f4, f6, f7, e4]
              refine ⟨i + 1, by omega, by omega, by omega, ?_, hI.up rfl rfl rfl rfl (Nat.le_refl _)⟩
              rw [deadTo_succ hfi]; simp
          · simp [f1, f3, f4, f6, f7, deadF]
            exact hI.up rfl rfl rfl rfl (Nat.le_refl _)
        · have : i = p.funs.length := by omega
          subst this
          have hdd : p.dead.length = (deadTo p p.funs.length).length := by unfold Prg.dead; rw [sorted_len]
          simp [f3, f4, f6, hdS.len, hdd]
          exact RK.eq rfl rfl
      · simp [deadTo]
        exact hI.up rfl rfl rfl rfl (Nat.le_refl _)
  · simp
    exact ⟨rfl, rfl, rfl, by simp, by simp⟩
end Go.Proofs.YtchkknkjhiaooaaGreatDoor.Vm
