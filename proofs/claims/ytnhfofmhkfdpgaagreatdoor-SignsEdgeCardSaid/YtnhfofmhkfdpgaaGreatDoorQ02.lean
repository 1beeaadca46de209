/- A part of the proof: Ve2 Vg Vh. -/
import Derived.Laws.Tables
import Derived.Test.YtnhfofmhkfdpgaaGreatDoorQ01
set_option linter.unusedVariables false
set_option linter.unusedSimpArgs false
set_option linter.constructorNameAsVariable false
namespace Go.Proofs.YtnhfofmhkfdpgaaGreatDoor.Vm
open Go Go.RowKit
section
variable {P:Program} {C:Ctx}
theorem xBb {k:EK} {ks:List EK} {xs:List AV} (h:fitsAll (k :: ks) xs=true):∃ x ys,xs=x :: ys/\k.fits x=true/\fitsAll ks ys=true:=by
 cases xs with
 | nil=>simp [fitsAll] at h
 | cons x ys=>simp only [fitsAll,Bool.and_eq_true] at h;exact ⟨x,ys,rfl,h.1,h.2⟩
theorem xBw:∀{ks ls:List EK} {xs:List AV},fitsAll (ks ++ ls) xs=true->fitsAll ks (xs.take ks.length)=true/\fitsAll ls (xs.drop ks.length)=true
 | [],ls,xs,h=>⟨by simp [fitsAll],by simpa using h⟩
 | k :: ks,ls,xs,h=>by
  obtain ⟨x,ys,rfl,h1,h2⟩:=xBb h
  obtain ⟨h3,h4⟩:=xBw h2
  exact ⟨by simp [fitsAll,h1,h3],by simpa using h4⟩
theorem xAt:∀{ks:List EK} {xs:List AV},fitsAll ks xs=true->xs.length=ks.length
 | [],[],_=>rfl
 | [],_ :: _,h=>by simp [fitsAll] at h
 | k :: ks,xs,h=>by
  obtain ⟨x,ys,rfl,h1,h2⟩:=xBb h
  simp [xAt h2]
theorem xHW (n:Nat) (xs ys:List AV):eqCells xs ys=(eqCells (xs.take n) (ys.take n) && eqCells (xs.drop n) (ys.drop n)):=by
 induction n generalizing xs ys with
 | zero=>simp [eqCells]
 | succ n ih =>
  cases xs with
  | nil=>simp [eqCells]
  | cons x xs =>
   cases ys with
   | nil=>simp [eqCells]
   | cons y ys=>simp only [eqCells,List.take_succ_cons,List.drop_succ_cons];rw [ih xs ys,Bool.and_assoc]
def Shape:Bool->AV->Prop
 | true,x=>∃ cs,x=.agg cs
 | false,x=>x.one=true
theorem xFT:∀(n:Nat) (xs ys:List AV),xs.length=n->ys.length=n->(List.range n).all (fun i=>valEq (xs.getD i .none) (ys.getD i .none))=eqCells xs ys
 | 0,[],[],_,_=>rfl
 | n + 1,x :: xs,y :: ys,lx,ly=>by
  have ih:=xFT n xs ys (by simpa using lx) (by simpa using ly)
  simp only [List.range_succ_eq_map,List.all_cons,List.all_map,eqCells,<- ih]
  rfl
theorem xHX {α:Type} {w:World} {f:α->Sem Bool} {b:α->Bool}:∀{L:List α},(∀x ∈ L,(f x).run P w=.ok (b x) w) ->
  (forIn (m:=Sem) L ((none:Option Bool),()) fun x __s=>do
   let r <- f x
   if (!r)=true then pure (ForInStep.done (some false,())) else pure (ForInStep.yield (none,()))).run P w=.ok (if L.all b then (none,()) else (some false,())) w
 | [],_=>by simp
 | x :: L,h=>by
  have h1:=h x (by simp)
  have h2:=xHX (f:=f) (b:=b) (L:=L) (fun y hy=>h y (by simp [hy]))
  simp only [List.forIn_cons,Sem.run_bind,h1,Result.andThen_ok]
  cases hb:b x
  ·simp [hb]
  ·simp only [Bool.not_true,Bool.false_eq_true,if_false,Sem.run_pure,Result.andThen_ok,List.all_cons,hb,Bool.true_and]
   exact h2
theorem xIY : ∀ (d : Nat) {t : TypeId} {ks : List EK}, eqT P d t = some ks → ∀ {g : Bool}, aggT P t = some g → ∀ {x y : AV}, Shape g x → Shape g y → fitsAll ks x.cells = true → fitsAll ks y.cells = true →
    ∀ {v u : Value}, VR C v x → VR C u y → ∀ (e : Nat) (w : World), (Op.equalIn (d + e) t v u).run P w = .ok (eqCells x.cells y.cells) w := by
  classical
  intro d
  induction d with
  | zero => intro t ks h; simp [eqT] at h
  | succ d ih =>
    intro t ks h g hg x y hx hy fx fy v u hv hu e w
    have harr : d + 1 + e = (d + e) + 1 := by omega
    rw [harr]
    simp only [eqT] at h
    have scal : ∀ k : EK, ks = [k] → g = false → ∃ a b, x = a ∧ y = b ∧ k.fits a = true ∧ k.fits b = true ∧ x.cells = [a] ∧ y.cells = [b] := by
      intro k hk hgf
      subst hk hgf
      obtain ⟨a, as, ha, h1, h2⟩ := xBb fx
      obtain ⟨b, bs, hb, h3, h4⟩ := xBb fy
      have e1 : x.cells = [x] := by cases x <;> first | rfl | simp [Shape, AV.one] at hx
      have e2 : y.cells = [y] := by cases y <;> first | rfl | simp [Shape, AV.one] at hy
      rw [e1] at ha; rw [e2] at hb
      simp only [List.cons.injEq] at ha hb
      exact ⟨x, y, rfl, rfl, by rw [ha.1]; exact h1, by rw [hb.1]; exact h3, e1, e2⟩
    cases hu' : P.underlying t with
    | none => rw [hu'] at h; simp at h
    | some D =>
      have hgd : g = isAggD D := by simp [aggT, hu'] at hg; exact hg.symm
      rw [hu'] at h
      cases D <;> simp only [reduceCtorEq, xoI] at h
      case bool =>
        obtain ⟨a, b, rfl, rfl, f1, f2, c1, c2⟩ := scal .bool h.symm hgd
        rw [c1, c2]
        cases hv <;> simp [EK.fits] at f1
        cases hu <;> simp [EK.fits] at f2
        simp [Op.equalIn, xAb hu', eqCells, scalarEq, valEq]
      case int k =>
        obtain ⟨a, b, rfl, rfl, f1, f2, c1, c2⟩ := scal (.int k) h.symm hgd
        rw [c1, c2]
        cases hv <;> simp [EK.fits] at f1
        cases hu <;> simp [EK.fits] at f2
        subst f1 f2
        simp [Op.equalIn, xAb hu', eqCells, scalarEq, valEq]
      case string =>
        obtain ⟨a, b, rfl, rfl, f1, f2, c1, c2⟩ := scal .str h.symm hgd
        rw [c1, c2]
        cases hv <;> simp [EK.fits] at f1
        cases hu <;> simp [EK.fits] at f2
        simp [Op.equalIn, xAb hu', eqCells, scalarEq, valEq]
      case struct fields =>
        split at h
        · cases h
        · rename_i hst
          have hst : P.stoodInHeld t = false := by simpa using hst
          subst hgd
          obtain ⟨xs, rfl⟩ := hx
          obtain ⟨ys, rfl⟩ := hy
          simp only [AV.cells] at fx fy ⊢
          cases hv with
          | agg vs _ hvs =>
          cases hu with
          | agg us _ hus =>
          simp only [Op.equalIn, Sem.run_bind, xAb hu', Result.andThen_ok, run_program]
          simp only [hst, Bool.false_eq_true, if_false, Sem.run_bind]
          have key : ∀ (fs : List Field) (off : Nat) (ls : List EK), eqFields P (eqT P d) fs off = some ls → fitsAll ls (xs.drop off) = true → fitsAll ls (ys.drop off) = true →
              ∃ b : Field → Bool, (∀ f ∈ fs, ((if f.name ≠ "_" then do
                  let p ← part f.type vs.toArray f.offset
                  let q ← part f.type us.toArray f.offset
                  Op.equalIn (d + e) f.type p q else pure true) : Sem Bool).run P w = .ok (b f) w) ∧ fs.all b = eqCells (xs.drop off) (ys.drop off) := by
            intro fs
            induction fs with
            | nil =>
              intro off ls h1 h2 h3
              simp only [eqFields, xoI] at h1; subst h1
              refine ⟨fun _ => true, by simp, ?_⟩
              have e1 : xs.drop off = [] := List.eq_nil_of_length_eq_zero (xAt h2)
              have e2 : ys.drop off = [] := List.eq_nil_of_length_eq_zero (xAt h3)
              rw [e1, e2]; rfl
            | cons f fs ihf =>
              intro off ls h1 h2 h3
              simp only [eqFields, Option.bind_eq_bind] at h1
              split at h1
              · rename_i hcond
                obtain ⟨hname, hoff⟩ := hcond
                simp only [xoB] at h1
                obtain ⟨k1, hk1, s, hs, gf, hgf, h1⟩ := h1
                split at h1
                · rename_i hsz
                  simp only [xoB, xoI] at h1
                  obtain ⟨k2, hk2, rfl⟩ := h1
                  obtain ⟨a1, a2⟩ := xBw h2
                  obtain ⟨b1, b2⟩ := xBw h3
                  rw [List.drop_drop] at a2 b2
                  obtain ⟨bb, hb1, hb2⟩ := ihf (off + k1.length) k2 (by rw [← hsz.1]; exact hk2) a2 b2
                  have lx := xAt a1
                  have ly := xAt b1
                  simp only [List.length_take, List.length_drop] at lx ly
                  obtain ⟨hsz1, hsz0, hsz2⟩ := hsz
                  have hone : gf = false → k1.length = 1 := by
                    intro hgf0; rw [← hsz1]; exact hsz2.resolve_left (by simp [hgf0])
                  have cell1 : ∀ (zs : List AV), fitsAll k1 ((zs.drop off).take k1.length) = true → k1.length = 1 → ∃ z, zs[off]? = some z ∧ (zs.drop off).take k1.length = [z] ∧ z.one = true := by
                    intro zs hz h1l
                    match k1, h1l, hz with
                    | [k], _, hz =>
                      obtain ⟨z, rest, hz1, hz2, hz3⟩ := xBb hz
                      have := xAt hz3
                      simp at this; subst this
                      refine ⟨z, ?_, hz1, by cases z <;> simp [EK.fits] at hz2 <;> rfl⟩
                      have := congrArg (fun l => l[0]?) hz1
                      simpa using this
                  have mk : ∀ (zs : List AV) (ws : List Value), VRs C ws zs → fitsAll k1 ((zs.drop off).take k1.length) = true → off + k1.length ≤ zs.length → ∃ z, partV gf zs off s = some z ∧ Shape gf z ∧ z.cells = (zs.drop off).take k1.length ∧ ∃ p, (part f.type ws.toArray f.offset).run P w = .ok p w ∧ VR C p z := by
                    intro zs ws hws hz hlen
                    cases gf with
                    | true =>
                      have hp : partV true zs off s = some (.agg ((zs.drop off).take s)) := by simp [partV, hsz1, hlen]
                      obtain ⟨p, p1, p2⟩ := xBV (P := P) (off := f.offset) hgf hs hws (by rw [hoff]; exact hp) w
                      exact ⟨_, hp, ⟨_, rfl⟩, by simp [AV.cells, hsz1], p, p1, p2⟩
                    | false =>
                      obtain ⟨z, z1, z2, z3⟩ := cell1 zs hz (hone rfl)
                      have hp : partV false zs off s = some z := by simp [partV, z1]
                      obtain ⟨p, p1, p2⟩ := xBV (P := P) (off := f.offset) hgf hs hws (by rw [hoff]; exact hp) w
                      refine ⟨z, hp, z3, ?_, p, p1, p2⟩
                      rw [z2]; cases z <;> first | rfl | simp [AV.one] at z3
                  obtain ⟨zx, x1, x2, x3, px, x4, x5⟩ := mk xs vs hvs a1 (by omega)
                  obtain ⟨zy, y1, y2, y3, py, y4, y5⟩ := mk ys us hus b1 (by omega)
                  have hrec := ih hk1 hgf x2 y2 (by rw [x3]; exact a1) (by rw [y3]; exact b1) x5 y5 e w
                  refine ⟨fun f' => if f' = f then eqCells zx.cells zy.cells else bb f', ?_, ?_⟩
                  · intro f' hf'
                    by_cases hff : f' = f
                    · subst hff
                      simp only [if_true]
                      rw [if_pos hname]
                      simp only [Sem.run_bind, x4, y4, Result.andThen_ok, hrec]
                    · simp only [if_neg hff]
                      exact hb1 f' ((List.mem_cons.1 hf').resolve_left hff)
                  · have hsplit := xHW k1.length (xs.drop off) (ys.drop off)
                    rw [List.drop_drop, List.drop_drop] at hsplit
                    rw [hsplit, ← x3, ← y3, ← hb2]
                    simp only [List.all_cons, if_true]
                    by_cases hall : eqCells zx.cells zy.cells = true
                    · rw [hall, Bool.true_and, Bool.true_and]
                      have hnot : ∀ f' ∈ fs, (if f' = f then true else bb f') = bb f' := by
                        intro f' hf'
                        by_cases hff : f' = f
                        · subst hff
                          have r := hb1 f' hf'
                          rw [if_pos hname] at r
                          simp only [Sem.run_bind, x4, y4, Result.andThen_ok, hrec, hall] at r
                          simp only [if_true]
                          simpa using r
                        · rw [if_neg hff]
                      rw [Bool.eq_iff_iff, List.all_eq_true, List.all_eq_true]
                      exact ⟨fun h f' hf' => by rw [← hnot f' hf']; exact h f' hf', fun h f' hf' => by rw [hnot f' hf']; exact h f' hf'⟩
                    · simp only [Bool.not_eq_true] at hall
                      rw [hall, Bool.false_and, Bool.false_and]
                · cases h1
              · cases h1
          obtain ⟨b, hb1, hb2⟩ := key fields.toList 0 ks h (by simpa using fx) (by simpa using fy)
          have hloop := xHX (P := P) (w := w) (L := fields.toList) (b := b) hb1
          rw [Array.forIn_toList] at hloop
          have hsame : (fun (f : Field) (__s : Option Bool × Unit) => ((if f.name ≠ "_" then (part f.type vs.toArray f.offset >>= fun p => part f.type us.toArray f.offset >>= fun q => Op.equalIn (d + e) f.type p q >>= fun r =>
                if (!r) = true then pure (ForInStep.done (some false, ())) else pure (ForInStep.yield (none, ())))
              else pure (ForInStep.yield (none, ()))) : Sem (ForInStep (Option Bool × Unit)))) = (fun (f : Field) (__s : Option Bool × Unit) => (((if f.name ≠ "_" then (part f.type vs.toArray f.offset >>= fun p => part f.type us.toArray f.offset >>= fun q => Op.equalIn (d + e) f.type p q) else pure true) >>= fun r =>
                if (!r) = true then pure (ForInStep.done (some false, ())) else pure (ForInStep.yield (none, ()))) : Sem (ForInStep (Option Bool × Unit)))) := by
            funext f s
            by_cases hn : f.name ≠ "_"
            · simp only [if_pos hn, bind_assoc]
            · simp only [if_neg hn, pure_bind, Bool.not_true, Bool.false_eq_true, if_false]
          rw [hsame, hloop]
          simp only [hb2, List.drop_zero, Result.andThen_ok]
          cases eqCells xs ys <;> simp
      case array n el =>
        simp only [Option.bind_eq_bind, xoB] at h
        obtain ⟨k1, hk1, s, hs, gf, hgf, h⟩ := h
        split at h
        · rename_i hcond
          obtain ⟨hs1, hgf0, hl1⟩ := hcond
          simp only [xoI] at h
          subst h hgf0 hs1
          subst hgd
          obtain ⟨xs, rfl⟩ := hx
          obtain ⟨ys, rfl⟩ := hy
          simp only [AV.cells] at fx fy ⊢
          cases hv with
          | agg vs _ hvs =>
          cases hu with
          | agg us _ hus =>
          simp only [Op.equalIn, Sem.run_bind, xAb hu', Result.andThen_ok, xAp hs, Nat.mul_one]
          obtain ⟨k, rfl⟩ : ∃ k, k1 = [k] := by
            match k1, hl1 with
            | [k], _ => exact ⟨k, rfl⟩
          have flat : (List.replicate n [k]).flatten = List.replicate n k := by
            induction n with
            | zero => rfl
            | succ n ih => simp [List.replicate_succ]
          rw [flat] at fx fy
          have lx := xAt fx
          have ly := xAt fy
          simp only [List.length_replicate] at lx ly
          have eachz : ∀ (zs : List AV) (m : Nat), fitsAll (List.replicate m k) zs = true → ∀ (i : Nat) (z : AV), zs[i]? = some z → k.fits z = true := by
            intro zs
            induction zs with
            | nil => intro m _ i z hz; simp at hz
            | cons z0 zs ihz =>
              intro m hm i z hz
              cases m with
              | zero => simp [fitsAll] at hm
              | succ m =>
                simp only [List.replicate_succ, fitsAll, Bool.and_eq_true] at hm
                cases i with
                | zero => simp at hz; subst hz; exact hm.1
                | succ i => exact ihz m hm.2 i z (by simpa using hz)
          have onez : ∀ z, k.fits z = true → z.one = true ∧ z.cells = [z] := by
            intro z hz; cases z <;> cases k <;> simp [EK.fits] at hz <;> exact ⟨rfl, rfl⟩
          have hstep : ∀ i ∈ List.range' 0 n, ((do
              let p ← part el vs.toArray i
              let q ← part el us.toArray i
              Op.equalIn (d + e) el p q : Sem Bool)).run P w = .ok (valEq (xs.getD i .none) (ys.getD i .none)) w := by
            intro i hi
            have hi : i < n := by simpa using hi
            have gx : xs[i]? = some xs[i] := xgG (by omega)
            have gy : ys[i]? = some ys[i] := xgG (by omega)
            have ox := onez _ (eachz xs n fx i _ gx)
            have oy := onez _ (eachz ys n fy i _ gy)
            obtain ⟨p, p1, p2⟩ := xBV (P := P) (off := i) hgf hs hvs (show partV false xs i 1 = some xs[i] by simp [partV, gx]) w
            obtain ⟨q, q1, q2⟩ := xBV (P := P) (off := i) hgf hs hus (show partV false ys i 1 = some ys[i] by simp [partV, gy]) w
            have hrec := ih hk1 hgf (x := xs[i]) (y := ys[i]) ox.1 oy.1 (by rw [ox.2]; simp [fitsAll, eachz xs n fx i _ gx]) (by rw [oy.2]; simp [fitsAll, eachz ys n fy i _ gy]) p2 q2 e w
            rw [ox.2, oy.2] at hrec
            simp only [Sem.run_bind, p1, q1, Result.andThen_ok, hrec]
            simp [eqCells, List.getD_eq_getElem?_getD, gx, gy]
          have hloop := xHX (P := P) (w := w) hstep
          have hall : (List.range' 0 n).all (fun i => valEq (xs.getD i .none) (ys.getD i .none)) = eqCells xs ys := by
            rw [← List.range_eq_range']
            exact xFT n xs ys lx ly
          rw [hall] at hloop
          rw [Std.Legacy.Range.forIn_eq_forIn_range']
          simp only [Std.Legacy.Range.size, Nat.sub_zero, Nat.add_sub_cancel, Nat.div_one]
          simp only [bind_assoc] at hloop
          rw [hloop]
          cases eqCells xs ys <;> simp
        · cases h
theorem xFf {F:AFrame} {a:Act} {o:Oper} (hF:FrameOK C F a) {neg:Bool} {t t':TypeId} {x y:Operand} (ho:o.op=.binOp (if neg then .neq else .eql) t x y t') {ks:List EK} (hk:eqT P 8 t=some ks) (hg:aggT P t=some true) (hgu:P.eqGuardType P.depth t=false) {vx vy:VX} (hx:cx x=some vx) (hy:cx y=some vy) {z:AV}
  (hz:pk (.cellsEq neg ks) [vx.eval F,vy.eval F]=some z):Does P C a o z:=by
 have h1:=xAf hF hx
 have h2:=xAf hF hy
 simp only [pk] at hz
 split at hz
 ·rename_i xs ys e
  simp only [List.cons.injEq,and_true] at e
  obtain ⟨e1,e2⟩:=e
  rw [e1] at h1;rw [e2] at h2
  split at hz
  ·rename_i hf
   simp only [xoI] at hz;subst hz
   have:=xIY 8 hk hg (x:=.agg xs) (y:=.agg ys) ⟨_,rfl⟩ ⟨_,rfl⟩ hf.1 hf.2 h1 h2 9992 C.w
   have this:(Op.equal t (a.eval x) (a.eval y)).run P C.w=.ok (eqCells xs ys) C.w:=this
   refine ⟨_,?_,.bool _⟩
   obtain ⟨v1,hv1⟩:∃ v,a.eval x=v:=⟨_,rfl⟩
   obtain ⟨v2,hv2⟩:∃ v,a.eval y=v:=⟨_,rfl⟩
   rw [hv1] at h1 this;rw [hv2] at h2 this
   cases h1;cases h2
   cases neg <;> simp [execOp,ho,hv1,hv2,eqGuard,binOp,this,hgu]
  ·cases hz
 ·cases hz
end
theorem xDL (ys:List AV):∀(xs:List AV) (off:Nat),(over xs off ys).length=xs.length:=by
 induction ys with
 | nil=>intro xs off;rfl
 | cons y ys ih=>intro xs off;simp [over,ih]
theorem xHb:∀(us:List Value) (k off:Nat) (cells:Array Value),
  ((us.zipIdx k).foldl (fun (cs:Array Value) (p:Value × Nat)=>cs.setIfInBounds (off + p.2) p.1) cells).toList=(us.zipIdx k).foldl (fun (cs:List Value) (p:Value × Nat)=>cs.set (off + p.2) p.1) cells.toList
 | [],k,off,cells=>rfl
 | u :: us,k,off,cells=>by
  simp only [List.zipIdx_cons,List.foldl_cons]
  rw [xHb us (k + 1) off]
  simp
theorem xHc {C:Ctx}:∀{us:List Value} {ys:List AV},VRs C us ys->∀(k off:Nat) {vs:List Value} {xs:List AV},VRs C vs xs ->
  VRs C ((us.zipIdx k).foldl (fun (cs:List Value) (p:Value × Nat)=>cs.set (off + p.2) p.1) vs) (over xs (off + k) ys)
 | _,_,.nil,k,off,vs,xs,h=>h
 | _,_,.cons u y us ys hu hs,k,off,vs,xs,h=>by
  simp only [List.zipIdx_cons,List.foldl_cons,over]
  have:=xHc hs (k + 1) off (h.set hu (off + k))
  rwa [show off + (k + 1)=off + k + 1 by omega] at this
theorem xED {C:Ctx} {place:Nat->Option (Nat × Nat)}:∀{idx:List Nat} {places:List (Nat × Nat)} {vs:List Value} {xs:List AV} {cells:Array Value} {ys zs:List AV},mapOpt place idx=some places ->
  VRs C vs xs->idx.length=xs.length->VRs C cells.toList ys->fillV ys (places.zip xs)=some zs->∃ out,Instr.fill place cells (idx.zip vs)=some out/\VRs C out.toList zs
 | idx,places,vs,xs,cells,ys,zs,hp,hv,hl,hc,hz=>by
  rcases xAs hp with ⟨rfl,rfl⟩ | ⟨i,idx',pl,places',rfl,rfl,h1,h2⟩
  ·simp [fillV] at hz;subst hz;exact ⟨cells,by simp [Instr.fill],hc⟩
  ·cases hv with
   | nil=>simp at hl
   | cons v x vs xs hv hvs =>
    obtain ⟨off,size⟩:=pl
    simp only [List.zip_cons_cons,fillV] at hz
    split at hz
    ·cases hz
    ·rename_i hcond
     have hcl:=hv.cells.length
     have hyl:=hc.length
     simp only [Array.length_toList] at hcl hyl
     have hcond':¬ (v.cells.size ≠ size \/ off + v.cells.size > cells.size):=by rw [hcl,hyl];exact hcond
     have hov:=xHc hv.cells 0 off hc
     simp only [Nat.add_zero] at hov
     rw [<- xHb] at hov
     obtain ⟨out,ho1,ho2⟩:=xED h2 hvs (by simpa using hl) hov hz
     refine ⟨out,?_,ho2⟩
     simp only [List.zip_cons_cons,Instr.fill,h1]
     have e1:(v.cells.size != size || decide (off + v.cells.size > cells.size))=false:=by
      simp only [not_or,Decidable.not_not] at hcond'
      simp [hcond'.1];omega
     rw [if_neg (by simpa using e1)]
     rw [<- ho1]
     congr 1
     rw [<- Array.foldl_toList]
     simp [Array.toList_zipIdx]
 termination_by idx=>idx.length
theorem xDk {α β γ:Type} {f:β->Option γ} {g:α->β}:∀(l:List α),mapOpt f (l.map g)=mapOpt (fun x=>f (g x)) l
 | []=>rfl
 | x :: l=>by simp only [List.map_cons,mapOpt,xDk l]
theorem xBk {α β:Type} {f:α->Option β}:∀{l:List α} {m:List β},mapOpt f l=some m->m.length=l.length
 | l,m,h=>by
  rcases xAs h with ⟨rfl,rfl⟩ | ⟨x,l',y,m',rfl,rfl,h1,h2⟩
  ·rfl
  ·simp [xBk h2]
 termination_by l=>l.length
theorem xIZ (parts:List (Nat × Operand)) (f:Operand->Value):parts.map (fun p=>(p.1,f p.2))=(parts.map (·.1)).zip (parts.map fun p=>f p.2):=by
 induction parts with
 | nil=>rfl
 | cons p ps ih=>simp [ih]
section
variable {P:Program} {C:Ctx} {F:AFrame} {a:Act} {o:Oper}
theorem xQt {t:TypeId} {z:Value} {pl:Nat->Option (Nat × Nat)} (hz:zeroT P t=some z) (hp:placeT P t=some pl) (parts:List (Nat × Value)):P.built t parts=Instr.fill pl z.cells parts:=by
 unfold zeroT at hz
 simp only [xoB] at hz
 obtain ⟨it,h1,h2⟩:=hz
 unfold placeT at hp
 unfold Program.built
 split at hp
 ·rename_i n e hu
  split at hp
  ·rename_i ie hie;simp only [xoI] at hp;subst hp
   simp [h1,hu,h2,hie]
  ·cases hp
 ·rename_i fs hu
  split at hp
  ·rename_i places hpl;simp only [xoI] at hp;subst hp
   simp only [h1,hu,h2,hpl]
  ·cases hp
 ·cases hp
theorem xHd {t:TypeId} {zc:List AV} (h:zeroC P t=some zc):∃ z,zeroT P t=some z/\mapOpt ofCell z.cells.toList=some zc:=by
 unfold zeroC at h
 simpa only [xoB] using h
theorem xMD (hF:FrameOK C F a) {t:TypeId} {parts:Array (Nat × Operand)} (ho:o.op=.build t parts) {zc:List AV} (hz:zeroC P t=some zc) {pl:Nat->Option (Nat × Nat)} (hpl:placeT P t=some pl)
  {ps:List (Nat × Nat)} (hps:mapOpt (fun p:Nat × Operand=>pl p.1) parts.toList=some ps) {xs:List VX} (hxs:mapOpt (fun p:Nat × Operand=>cx p.2) parts.toList=some xs) {y:AV}
  (hy:pk (.build zc ps) (xs.map (VX.eval F))=some y):Does P C a o y:=by
 obtain ⟨z,hz1,hz2⟩:=xHd hz
 simp only [pk] at hy
 split at hy
 ·rename_i hl
  simp only [Option.map_eq_some_iff] at hy
  obtain ⟨cells,hfill,rfl⟩:=hy
  have hxs':mapOpt cx (parts.toList.map (·.2))=some xs:=by rw [xDk];exact hxs
  have hps':mapOpt pl (parts.toList.map (·.1))=some ps:=by rw [xDk];exact hps
  have hv:=xAI hF hxs'
  rw [List.map_map] at hv
  obtain ⟨out,ho1,ho2⟩:=xED hps' hv (by have:=xBk hps';simp at this hl ⊢;omega) (xBP C hz2) hfill
  refine ⟨.agg out,?_,?_⟩
  ·have hb:P.built t (parts.map fun p=>(p.1,a.eval p.2)).toList=some out:=by
    rw [xQt hz1 hpl,<- ho1]
    congr 1
    simp only [Array.toList_map]
    exact xIZ parts.toList a.eval
   have:=run_build (P:=P) C.w t _ out hb
   simp only [execOp,ho,Sem.run_bind]
   rw [this]
   rfl
  ·have:=VR.agg (C:=C) out.toList cells ho2
   simpa using this
 ·cases hy
theorem xCr {op:BinOp} {n:Bool} (h:negOf op=some n):op=if n then .neq else .eql:=by
 unfold negOf at h;split at h <;> simp at h <;> subst h <;> rfl
theorem xKz {y:Operand} (h:isNilP y=true):y=.const (.pointer none):=by
 unfold isNilP at h;split at h <;> simp at h;rfl
theorem xKA {y:Operand} (h:isNilI y=true):y=.const .nilIface:=by
 unfold isNilI at h;split at h <;> simp at h;rfl
theorem xLz (hF:FrameOK C F a) {k:PK} {xs:List VX} (hc:compOp P o.op=some (.pk k xs)) {y:AV} (hy:pk k (xs.map (VX.eval F))=some y):Does P C a o y:=by
 generalize hop:o.op=op at hc
 cases op <;> simp only [compOp,Option.bind_eq_bind,xoB,xoI,reduceCtorEq] at hc
 case move x =>
  obtain ⟨vx,hx,h⟩:=hc
  cases h;exact xIV hF (.inl hop) hx hy
 case assign x =>
  obtain ⟨vx,hx,h⟩:=hc
  cases h;exact xIV hF (.inr hop) hx hy
 case pick c x y' =>
  obtain ⟨vc,hc',vx,hx,vy,hy',h⟩:=hc
  cases h;exact xNQ hF hop hc' hx hy' hy
 case alloc t =>
  obtain ⟨z,hz,h⟩:=hc
  split at h <;> simp at h
 case box t x=>obtain ⟨vx,hx,h⟩:=hc;cases h
 case build t parts =>
  obtain ⟨z,hz,pl,hpl,ps,hps,xs',hxs,h⟩:=hc
  cases h;exact xMD hF hop hz hpl hps hxs hy
 case buildSlice t len parts =>
  split at hc
  ·simp only [xoB] at hc
   obtain ⟨z,hz,s,hs,xs',hxs,h⟩:=hc
   split at h <;> simp at h
  ·cases hc
 case load t x =>
  obtain ⟨s,hs,g,hg,vx,hx,h⟩:=hc
  cases h
 case store t x v =>
  obtain ⟨s,hs,vx,hx,vv,hv,h⟩:=hc
  cases h
 case nilCheck x =>
  obtain ⟨vx,hx,h⟩:=hc
  cases h;exact xHT hF hop hx hy
 case binOp op t x y' t' =>
  unfold compBin at hc
  split at hc
  ·simp only [Option.bind_eq_bind,xoB,xoI] at hc
   obtain ⟨vx,hx,vy,hy',h⟩:=hc
   cases h;exact xNR hF hop hx hy' hy
  ·rename_i ht
   simp only [Option.bind_eq_bind,xoB,xoI] at hc
   obtain ⟨n,hn,vx,hx,vy,hy',h⟩:=hc
   cases h;exact xNS hF (by rw [hop,xCr hn]) ht hx hy' hy
  ·simp only [Option.bind_eq_bind,xoB,xoI] at hc
   obtain ⟨vx,hx,vy,hy',h⟩:=hc
   cases h;exact xNT hF hop hx hy' hy
  ·rename_i ht
   simp only [Option.bind_eq_bind,xoB] at hc
   obtain ⟨n,hn,h⟩:=hc
   split at h
   ·rename_i hnil
    simp only [xoB,xoI] at h
    obtain ⟨vx,hx,h⟩:=h
    cases h;exact xKu hF (by rw [hop,xCr hn,xKz hnil]) ht hx hy
   ·cases h
  ·rename_i ht
   simp only [Option.bind_eq_bind,xoB] at hc
   obtain ⟨n,hn,h⟩:=hc
   split at h
   ·rename_i hnil
    simp only [xoB,xoI] at h
    obtain ⟨vx,hx,h⟩:=h
    cases h;exact xMz hF (by rw [hop,xCr hn,xKA hnil]) ht hx hy
   ·cases h
  ·simp only [Option.bind_eq_bind,xoB] at hc
   obtain ⟨n,hn,h⟩:=hc
   split at h
   ·simp only [xoB,xoI] at h
    obtain ⟨vx,hx,h⟩:=h;cases h
   ·cases h
  ·rename_i ht
   simp only [Option.bind_eq_bind,xoB] at hc
   obtain ⟨n,hn,ks,hk,vx,hx,vy,hy',h⟩:=hc
   split at h
   ·cases h
   ·rename_i hgu
    cases h;exact xFf hF (by rw [hop,xCr hn]) hk (by simp [aggT,ht,isAggD]) (by simpa using hgu) hx hy' hy
  ·rename_i ht
   simp only [Option.bind_eq_bind,xoB] at hc
   obtain ⟨n,hn,ks,hk,vx,hx,vy,hy',h⟩:=hc
   split at h
   ·cases h
   ·rename_i hgu
    cases h;exact xFf hF (by rw [hop,xCr hn]) hk (by simp [aggT,ht,isAggD]) (by simpa using hgu) hx hy' hy
  ·cases hc
 case unOp op t x =>
  obtain ⟨vx,hx,h⟩:=hc
  cases h;exact xSj hF hop hx hy
 case convert s d x =>
  split at hc
  ·rename_i hs hd
   simp only [xoB,xoI] at hc
   obtain ⟨vx,hx,h⟩:=hc
   cases h;exact xNU hF hop hs hd hx hy
  ·cases hc
 case makeInterface t x =>
  split at hc
  ·cases hc
  ·rename_i d hni ht
   simp only [xoB,xoI] at hc
   obtain ⟨vx,hx,h⟩:=hc
   cases h;exact xMA hF hop ht (fun ms e=>hni ms e) hx hy
  ·cases hc
 case makeFunc fn first captured =>
  obtain ⟨x1,hx1,x2,hx2,h⟩:=hc
  cases h;exact xKv hF hop hx1 hx2 hy
 case makeMap t r=>cases r <;> simp [compOp] at hc
 case makeSlice t l c =>
  split at hc
  ·simp only [xoB] at hc
   obtain ⟨z,hz,i,hi,vl,hl,vc,hc',h⟩:=hc
   split at h <;> simp at h
  ·cases hc
 case slice t x lo hi mx =>
  obtain ⟨vx,hx,bs,hb,h⟩:=hc
  split at h
  ·rename_i ht
   simp only [xoB] at h
   obtain ⟨s,hs,h⟩:=h
   split at h
   ·simp only [xoI] at h;cases h;exact xMC hF hop ht hs hx hb (by simpa using hy)
   ·cases h
  ·rename_i ht
   split at h
   ·cases h
   ·rename_i hmx
    simp only [xoI] at h;cases h;exact xHU hF hop ht (by simpa using hmx) hx hb (by simpa using hy)
  ·rename_i ht
   simp only [xoB] at h
   obtain ⟨s,hs,h⟩:=h
   split at h
   ·simp only [xoI] at h;cases h;exact xHV hF hop ht hs hx hb (by simpa using hy)
   ·cases h
  ·cases h
 case fieldAddr t x i =>
  obtain ⟨f,hf,n,hn,h⟩:=hc
  split at h
  ·simp only [xoB,xoI] at h
   obtain ⟨vx,hx,h⟩:=h
   cases h;exact xGZ hF hop hf hn (by assumption) hx hy
  ·cases h
 case field t x i =>
  obtain ⟨f,hf,n,hn,g,hg,vx,hx,h⟩:=hc
  cases h;exact xMB hF hop hf hn hg hx hy
 case indexAddr t x i =>
  split at hc
  ·rename_i ht
   simp only [xoB] at hc
   obtain ⟨s,hs,h⟩:=hc
   split at h
   ·simp only [xoB,xoI] at h
    obtain ⟨vx,hx,vi,hi,h⟩:=h
    cases h;exact xG0 hF hop ht hs hx hi hy
   ·cases h
  ·rename_i ht
   simp only [xoB] at hc
   obtain ⟨s,hs,h⟩:=hc
   split at h
   ·simp only [xoB,xoI] at h
    obtain ⟨vx,hx,vi,hi,h⟩:=h
    cases h;exact xEC hF hop ht hs hx hi hy
   ·cases h
  ·cases hc
 case index t x i =>
  split at hc
  ·rename_i ht
   simp only [xoB,xoI] at hc
   obtain ⟨vx,hx,vi,hi,h⟩:=hc
   cases h;exact xHS hF hop ht hx hi hy
  ·cases hc
 case lookup t x i ok =>
  obtain ⟨k',hk,e,he,z,hz,kk,hkk,vx,hx,vi,hi,h⟩:=hc
  cases h
 case mapUpdate t m k' v =>
  obtain ⟨q,hq,kk,hkk,vx,hx,vi,hi,vv,hv,h⟩:=hc
  cases h
 case typeAssert x xt t ok =>
  obtain ⟨z,hz,h⟩:=hc
  split at h
  ·cases h
  ·rename_i d hni ht
   simp only [xoB,xoI] at h hz
   obtain ⟨zv,hz1,hz2⟩:=hz
   obtain ⟨vx,hx,h⟩:=h
   cases h;exact xKy hF hop ht (fun ms e=>hni ms e) hx hz1 hz2 hy
  ·cases h
 case extract x i =>
  obtain ⟨vx,hx,h⟩:=hc
  cases h;exact xIX hF hop hx hy
 case call c =>
  split at hc
  ·rename_i b hb
   unfold compBuiltin at hc
   split at hc
   ·rename_i x t hxs hts
    simp only [Option.bind_eq_bind,xoB] at hc
    obtain ⟨vx,hx,h⟩:=hc
    split at h
    ·rename_i ht;simp only [xoI] at h;cases h;exact xKw hF hop hb hxs hts ht hx hy
    ·rename_i ht;simp only [xoI] at h;cases h;exact xNV hF hop hb hxs hts ht hx hy
    ·rename_i ht;simp only [xoI] at h;cases h;exact xKx hop hb hxs hts ht hy
    ·simp at h
    ·cases h
   ·rename_i x y' t u hxs hts
    simp only [Option.bind_eq_bind,xoB] at hc
    obtain ⟨vx,hx,vy,hy',h⟩:=hc
    split at h
    ·simp only [xoB] at h
     obtain ⟨i,hi,z,hz,h⟩:=h
     split at h <;> simp at h
    ·cases h
   ·rename_i x y' t u hxs hts
    simp only [Option.bind_eq_bind,xoB] at hc
    obtain ⟨vx,hx,vy,hy',h⟩:=hc
    split at h
    ·simp only [xoB] at h
     obtain ⟨s,hs,h⟩:=h
     split at h <;> simp at h
    ·cases h
   ·rename_i x t hxs hts
    simp only [Option.bind_eq_bind,xoB] at hc
    obtain ⟨vx,hx,h⟩:=hc
    split at h
    ·simp only [xoB] at h
     obtain ⟨s,hs,h⟩:=h
     split at h <;> simp at h
    ·cases h
   ·simp only [Option.bind_eq_bind,xoB,xoI] at hc
    obtain ⟨vx,hx,h⟩:=hc
    cases h;exact xNW hF hop hb hx hy
   ·simp only [Option.bind_eq_bind,xoB,xoI] at hc
    obtain ⟨vx,hx,h⟩:=hc
    cases h;exact xNX hF hop hb hx hy
   ·cases hc
  ·simp only [xoB,xoI] at hc
   obtain ⟨vx,hx,h⟩:=hc;cases h
  ·simp only [xoB,xoI] at hc
   obtain ⟨vx,hx,vy,hy',h⟩:=hc;cases h
  ·simp only [xoB,xoI] at hc
   obtain ⟨vx,hx,vy,hy',h⟩:=hc;cases h
end
def putBlk (w:World) (b:Nat) (ob:Obj):World:={ w with heap:=w.heap.setIfInBounds b ob }
theorem xAm {w:World} {b:Nat} (ob:Obj) (h:b < w.heap.size):(putBlk w b ob).heap[b]?=some ob:=by simp [putBlk,h]
theorem xAB {w:World} {b k:Nat} (ob:Obj) (h:k ≠ b):(putBlk w b ob).heap[k]?=w.heap[k]?:=by
 simp only [putBlk,Array.getElem?_setIfInBounds]
 rw [if_neg (by omega)]
theorem xAR (w:World) (b:Nat) (ob:Obj):(putBlk w b ob).heap.size=w.heap.size:=by simp [putBlk]
theorem xFg {w:World} {b B:Nat} (ob:Obj) (h:B<=b):Below B w (putBlk w b ob) :=
 ⟨rfl,rfl,rfl,by rw [xAR];exact Nat.le_refl _,fun k hk=>xAB ob (by omega)⟩
theorem Rel.own_blk {C:Ctx} {o:Nat} {x:AObj} {l:Loc} (ho:C.S.obj o=some x) (hl:C.μ o=some l):C.bad l.blk:=.inr ⟨o,l,x,ho,hl,rfl⟩
def Ctx.wrote (C:Ctx) (o:Nat) (b:Nat) (ob:Obj) (x:AObj):Ctx:={ C with w:=putBlk C.w b ob,S:=C.S.set o x }
theorem xNY {C:Ctx} {o b:Nat} {ob:Obj} {x x':AObj} (ho:C.S.obj o=some x) (k:Nat) (h:(C.wrote o b ob x').bad k):C.bad k:=by
 rcases h with ⟨h1,h2⟩ | ⟨q,l,y,h1,h2,h3⟩
 ·exact .inl ⟨h1,h2⟩
 ·simp only [Ctx.wrote,St.set] at h1 h2
  by_cases e:q=o
  ·subst e;exact .inr ⟨q,l,x,ho,h2,h3⟩
  ·rw [if_neg e] at h1;exact .inr ⟨q,l,y,h1,h2,h3⟩
theorem xCa {C:Ctx} (h:Rel C) {o:Nat} {x:AObj} {l:Loc} (ho:C.S.obj o=some x) (hl:C.μ o=some l) {old:Obj} (hh:C.w.heap[l.blk]?=some old) (ob:Obj)
  (hc:∀c e f,old=.cells c e f->∃ c' f',ob=.cells c' e f'/\c'.size=c.size) (x':AObj) (hlp:∀r,old=.loop r->∃ r',ob=.loop r':=by intro r h;cases h):Le C (C.wrote o l.blk ob x') where
 base:=rfl
 av:=rfl
 μ q l' hq:=hq
 size:=by rw [show (C.wrote o l.blk ob x').w=putBlk C.w l.blk ob from rfl,xAR];exact Nat.le_refl _
 cells b c e f hb:=by
  by_cases eb:b=l.blk
  ·subst eb
   rw [hh] at hb;cases hb
   obtain ⟨c',f',rfl,hs⟩:=hc c e f rfl
   exact ⟨c',f',xAm _ (Array.getElem?_eq_some_iff.1 hh).1,hs⟩
  ·exact ⟨c,f,(xAB _ eb).trans hb,rfl⟩
 keep b hb hn:=by
  have eb:b ≠ l.blk:=fun e=>hn (e ▸ Rel.own_blk ho hl)
  exact ⟨xAB _ eb,fun hbad=>hn (xNY ho b hbad)⟩
 below:=xFg _ (h.low o x l ho hl)
 loops b r hb:=by
  by_cases eb:b=l.blk
  ·subst eb
   rw [hh] at hb;cases hb
   obtain ⟨r',rfl⟩:=hlp r rfl
   exact ⟨r',xAm _ (Array.getElem?_eq_some_iff.1 hh).1⟩
  ·exact ⟨r,(xAB _ eb).trans hb⟩
theorem xBF {C:Ctx} (h:Rel C) {o:Nat} {x:AObj} {l:Loc} (ho:C.S.obj o=some x) (hl:C.μ o=some l) {ob:Obj} {x':AObj} (hL:Le C (C.wrote o l.blk ob x'))
  (hx:ObjOK (C.wrote o l.blk ob x') o x'):Rel (C.wrote o l.blk ob x') where
 obj q y hq:=by
  by_cases e:q=o
  ·subst e;simp only [Ctx.wrote,St.set,if_true,xoI] at hq;subst hq;exact hx
  ·simp only [Ctx.wrote,St.set,if_neg e] at hq
   refine (h.obj q y hq).mono hL (fun hn=>hn) (fun l' hl'=>xAB _ fun eb=>e (h.inj q o l' l y x hq ho hl' hl eb))
 inj q q' l1 l2 y y' hq hq' hl1 hl2 hb:=by
  simp only [Ctx.wrote,St.set] at hq hq' hl1 hl2
  by_cases e:q=o <;> by_cases e':q'=o
  ·omega
  ·subst e;rw [if_neg e'] at hq';exact h.inj _ _ l1 l2 _ _ ho hq' hl1 hl2 hb
  ·subst e';rw [if_neg e] at hq;exact h.inj _ _ l1 l2 _ _ hq ho hl1 hl2 hb
  ·rw [if_neg e] at hq;rw [if_neg e'] at hq';exact h.inj _ _ l1 l2 _ _ hq hq' hl1 hl2 hb
 lt q y hq:=by
  simp only [Ctx.wrote,St.set] at hq ⊢
  by_cases e:q=o
  ·subst e;exact h.lt _ _ ho
  ·rw [if_neg e] at hq;exact h.lt _ _ hq
 fresh q l' hq:=h.fresh q l' hq
 low q y l' hq hl':=by
  simp only [Ctx.wrote,St.set] at hq hl'
  by_cases e:q=o
  ·subst e;exact h.low _ _ l' ho hl'
  ·rw [if_neg e] at hq;exact h.low _ _ l' hq hl'
 basele:=by have:=h.basele;rw [show (C.wrote o l.blk ob x').w=putBlk C.w l.blk ob from rfl,xAR];exact this
def Ctx.drew (C:Ctx):Ctx:={ C with w:=C.w.drew }
theorem xNZ (C:Ctx):Le C C.drew:=⟨rfl,rfl,fun _ _ h=>h,Nat.le_refl _,fun b c e f h=>⟨c,f,h,rfl⟩,fun b _ h=>⟨rfl,h⟩,⟨rfl,rfl,rfl,Nat.le_refl _,fun _ _=>rfl⟩,fun b r h=>⟨r,h⟩⟩
theorem xLA {C:Ctx} (h:Rel C):Rel C.drew where
 obj o x ho:=(h.obj o x ho).mono (xNZ C) (fun h=>h) (fun _ _=>rfl)
 inj:=h.inj
 lt:=h.lt
 fresh:=h.fresh
 low:=h.low
 basele:=h.basele
def Ctx.dropped (C:Ctx) (o:Nat):Ctx:={ C with S:=C.S.drop o }
theorem xCs (C:Ctx) (o:Nat):Le C (C.dropped o) :=
 ⟨rfl,rfl,fun _ _ h=>h,Nat.le_refl _,fun b c e f h=>⟨c,f,h,rfl⟩,fun b _ h=>⟨rfl,fun hb=>h (by
  rcases hb with hb | ⟨q,l,y,h1,h2,h3⟩
  ·exact .inl hb
  ·simp only [Ctx.dropped,St.drop] at h1 h2
   split at h1
   ·cases h1
   ·exact .inr ⟨q,l,y,h1,h2,h3⟩)⟩,Below.refl _ _,fun b r h=>⟨r,h⟩⟩
theorem xB0 {C:Ctx} {o q:Nat} {x:AObj} (h:(C.dropped o).S.obj q=some x):C.S.obj q=some x/\q ≠ o:=by
 simp only [Ctx.dropped,St.drop] at h
 split at h
 ·cases h
 ·exact ⟨h,by assumption⟩
theorem xFU {C:Ctx} (h:Rel C) (o:Nat):Rel (C.dropped o) where
 obj q x hq:=(h.obj q x (xB0 hq).1).mono (xCs C o) (fun h=>h) (fun _ _=>rfl)
 inj q q' l l' x x' hq hq':=h.inj q q' l l' x x' (xB0 hq).1 (xB0 hq').1
 lt q x hq:=h.lt q x (xB0 hq).1
 fresh:=h.fresh
 low q x l hq:=h.low q x l (xB0 hq).1
 basele:=h.basele
def Ctx.moved (C:Ctx) (o:Nat) (b:Nat) (ob:Obj) (l':Loc) (x:AObj):Ctx :=
 { C with w:=putBlk C.w b ob,μ:=fun q=>if q=C.S.next then some l' else C.μ q,S:=(C.S.drop o).new x }
theorem xBG {C:Ctx} {o b:Nat} {ob:Obj} {l':Loc} {x' y:AObj} {q:Nat} (h:(C.moved o b ob l' x').S.obj q=some y):(q=C.S.next/\y=x') \/ (q ≠ C.S.next/\q ≠ o/\C.S.obj q=some y):=by
 have h:(if q=(C.S.drop o).next then some x' else (C.S.drop o).obj q)=some y:=h
 have h:(if q=C.S.next then some x' else if q=o then none else C.S.obj q)=some y:=h
 by_cases e:q=C.S.next
 ·simp [e] at h;exact .inl ⟨e,h.symm⟩
 ·by_cases e':q=o
  ·simp [e,e'] at h;subst e';simp [e] at h
  ·simp [e,e'] at h;exact .inr ⟨e,e',h⟩
theorem moved_μ {C:Ctx} {o b:Nat} {ob:Obj} {l' l1:Loc} {x':AObj} {q:Nat} (h:(C.moved o b ob l' x').μ q=some l1):(q=C.S.next/\l1=l') \/ (q ≠ C.S.next/\C.μ q=some l1):=by
 have h:(if q=C.S.next then some l' else C.μ q)=some l1:=h
 by_cases e:q=C.S.next
 ·simp [e] at h;exact .inl ⟨e,h.symm⟩
 ·simp [e] at h;exact .inr ⟨e,h⟩
theorem xQu {C:Ctx} (h:Rel C) {o:Nat} {x:AObj} {l:Loc} (ho:C.S.obj o=some x) (hl:C.μ o=some l) {old:Obj} (hh:C.w.heap[l.blk]?=some old) (ob:Obj)
  (hc:∀c e f,old=.cells c e f->∃ c' f',ob=.cells c' e f'/\c'.size=c.size) (l':Loc) (hb':l'.blk=l.blk) (x':AObj) (hlp:∀r,old=.loop r->∃ r',ob=.loop r':=by intro r h;cases h):Le C (C.moved o l.blk ob l' x') where
 base:=rfl
 av:=rfl
 μ q l1 hq:=by have:=h.fresh q l1 hq;show (if q=C.S.next then _ else _)=_;rw [if_neg (by omega)];exact hq
 size:=by rw [show (C.moved o l.blk ob l' x').w=putBlk C.w l.blk ob from rfl,xAR];exact Nat.le_refl _
 cells b c e f hb:=by
  by_cases eb:b=l.blk
  ·subst eb
   rw [hh] at hb;cases hb
   obtain ⟨c',f',rfl,hs⟩:=hc c e f rfl
   exact ⟨c',f',xAm _ (Array.getElem?_eq_some_iff.1 hh).1,hs⟩
  ·exact ⟨c,f,(xAB _ eb).trans hb,rfl⟩
 keep b hb hn:=by
  have eb:b ≠ l.blk:=fun e=>hn (e ▸ Rel.own_blk ho hl)
  refine ⟨xAB _ eb,fun hbad=>?_⟩
  rcases hbad with hbad | ⟨q,l1,y,h1,h2,h3⟩
  ·exact hn (.inl hbad)
  ·rcases xBG h1 with ⟨e,rfl⟩ | ⟨e,e',h1⟩ <;> rcases moved_μ h2 with ⟨e2,rfl⟩ | ⟨e2,h2⟩
   ·exact eb (h3.symm.trans hb')
   ·exact absurd e e2
   ·exact absurd e2 e
   ·exact hn (.inr ⟨q,l1,y,h1,h2,h3⟩)
 below:=xFg _ (h.low o x l ho hl)
 loops b r hb:=by
  by_cases eb:b=l.blk
  ·subst eb
   rw [hh] at hb;cases hb
   obtain ⟨r',rfl⟩:=hlp r rfl
   exact ⟨r',xAm _ (Array.getElem?_eq_some_iff.1 hh).1⟩
  ·exact ⟨r,(xAB _ eb).trans hb⟩
theorem xN0 {C:Ctx} (h:Rel C) {o:Nat} {x:AObj} {l:Loc} (ho:C.S.obj o=some x) (hl:C.μ o=some l) {ob:Obj} {l':Loc} (hb':l'.blk=l.blk) {x':AObj} (hL:Le C (C.moved o l.blk ob l' x'))
  (hx:ObjOK (C.moved o l.blk ob l' x') C.S.next x'):Rel (C.moved o l.blk ob l' x') where
 obj q y hq:=by
  rcases xBG hq with ⟨rfl,rfl⟩ | ⟨e,e',hq⟩
  ·exact hx
  ·refine (h.obj q y hq).mono hL (fun hn=>by simp only [Ctx.moved,if_neg e];exact hn) (fun l1 hl1=>xAB _ fun eb=>e' (h.inj q o l1 l y x hq ho hl1 hl eb))
 inj q q' l1 l2 y y' hq hq' hl1 hl2 hb:=by
  rcases moved_μ hl1 with ⟨f,f1⟩ | ⟨f,f1⟩ <;> rcases moved_μ hl2 with ⟨f',f2⟩ | ⟨f',f2⟩
  ·omega
  ·rcases xBG hq' with ⟨e',_⟩ | ⟨e',e1',g⟩
   ·exact absurd e' f'
   ·exact absurd (h.inj q' o l2 l _ x g ho f2 hl (hb.symm.trans (f1 ▸ hb'))) e1'
  ·rcases xBG hq with ⟨e,_⟩ | ⟨e,e1,g⟩
   ·exact absurd e f
   ·exact absurd (h.inj q o l1 l _ x g ho f1 hl (hb.trans (f2 ▸ hb'))) e1
  ·rcases xBG hq with ⟨e,_⟩ | ⟨e,e1,g⟩
   ·exact absurd e f
   ·rcases xBG hq' with ⟨e',_⟩ | ⟨e',e1',g'⟩
    ·exact absurd e' f'
    ·exact h.inj _ _ l1 l2 _ _ g g' f1 f2 hb
 lt q y hq:=by
  rcases xBG hq with ⟨e,rfl⟩ | ⟨e,e1,hq⟩
  ·show q < C.S.next + 1;omega
  ·have:=h.lt q y hq;show q < C.S.next + 1;omega
 fresh q l1 hq:=by
  rcases moved_μ hq with ⟨e,rfl⟩ | ⟨e,hq⟩
  ·show q < C.S.next + 1;omega
  ·have:=h.fresh q l1 hq;show q < C.S.next + 1;omega
 low q y l1 hq hl1:=by
  rcases xBG hq with ⟨e,rfl⟩ | ⟨e,e1,hq⟩ <;> rcases moved_μ hl1 with ⟨f,rfl⟩ | ⟨f,hl1⟩
  ·rw [hb'];exact h.low o x l ho hl
  ·omega
  ·omega
  ·exact h.low q y l1 hq hl1
 basele:=by have:=h.basele;rw [show (C.moved o l.blk ob l' x').w=putBlk C.w l.blk ob from rfl,xAR];exact this
def wr (c:Array Value) (q:Nat):List Value->Array Value
 | []=>c
 | v :: vs=>wr (c.setIfInBounds q v) (q + 1) vs
theorem xC2:∀(vs:List Value) (c:Array Value) (q:Nat),(wr c q vs).size=c.size
 | [],c,q=>rfl
 | v :: vs,c,q=>by simp [wr,xC2 vs]
theorem xN1:∀(vs:List Value) (c:Array Value) (q j:Nat),q + vs.length<=c.size->(wr c q vs)[j]?=if q<=j/\j < q + vs.length then vs[j - q]? else c[j]?
 | [],c,q,j,h=>by simp [wr];intro h1 h2;omega
 | v :: vs,c,q,j,h=>by
  simp only [List.length_cons] at h
  simp only [wr]
  rw [xN1 vs _ _ j (by simp;omega)]
  simp only [List.length_cons]
  by_cases e:j=q
  ·subst e
   rw [if_neg (by omega),if_pos (by omega),Array.getElem?_setIfInBounds,if_pos rfl,if_pos (by omega)]
   simp
  ·by_cases h1:q + 1<=j/\j < q + 1 + vs.length
   ·rw [if_pos h1,if_pos (by omega),show j - q=(j - (q + 1)) + 1 by omega];simp
   ·rw [if_neg h1,if_neg (by omega),Array.getElem?_setIfInBounds,if_neg (by omega)]
theorem xI0 (w:World) (b:Nat) (o o':Obj):putBlk (putBlk w b o) b o'=putBlk w b o':=by simp [putBlk]
theorem xKB {w:World} {b q:Nat} {c:Array Value} {e:TypeId} {f:Nat × Nat} (h:w.heap[b]?=some (.cells c e f)) (v:Value):w.setCell ⟨b,q,none⟩ v=putBlk w b (.cells (c.setIfInBounds q v) e f):=by
 obtain ⟨hlt,hb⟩:=Array.getElem?_eq_some_iff.1 h
 simp only [World.setCell,putBlk]
 congr 1
 apply Array.ext'
 apply List.ext_getElem?
 intro i
 simp only [Array.getElem?_toList,Array.getElem?_modify,Array.getElem?_setIfInBounds]
 by_cases e:b=i
 ·subst e;simp [hlt,hb]
 ·simp [e]
theorem xBx {P:Program} {b:Nat} {e:TypeId}:∀(vs:List Value) (q i:Nat) (w:World) (c:Array Value),w.heap[b]?=some (.cells c e (0,0))->q + i + vs.length<=c.size->(∀v ∈ vs,v.oneCell'=true) ->
  (storeCells ⟨b,q,none⟩ vs i).run P w=.ok () (putBlk w b (.cells (wr c (q + i) vs) e (0,0)))
 | [],q,i,w,c,h,hs,ho=>by
  obtain ⟨hlt,hb⟩:=Array.getElem?_eq_some_iff.1 h
  simp only [storeCells,Sem.run_pure,wr,putBlk]
  congr 1
  have:w.heap.setIfInBounds b (.cells c e (0,0))=w.heap:=by
   apply Array.ext'
   apply List.ext_getElem?
   intro i
   simp only [Array.getElem?_toList,Array.getElem?_setIfInBounds]
   split
   ·rename_i e;subst e;simp [hlt,hb]
   ·rfl
  rw [this]
 | v :: vs,q,i,w,c,h,hs,ho=>by
  simp only [List.length_cons] at hs
  simp only [storeCells,Sem.run_bind,xBv]
  have hcell:w.cell? ⟨b,q + i,none⟩=some (c[q + i]'(by omega)):=by
   rw [cell_of_row w b (q + i) c e (0,0) h];simp
  have hfr:w.frozen? ⟨b,q + i,none⟩=false:=frozen_of_row w b (q + i) c e h
  have hst:(store ⟨b,q + i,none⟩ v).run P w=.ok () (w.setCell ⟨b,q + i,none⟩ v):=by
   rw [run_store P w _ v _ (ho v (by simp)),hcell];simp [hfr]
  rw [hst,Result.andThen_ok,xKB h]
  have hlt:=(Array.getElem?_eq_some_iff.1 h).1
  rw [xBx vs q (i + 1) _ (c.setIfInBounds (q + i) v) (xAm _ hlt) (by simp;omega) (fun u hu=>ho u (by simp [hu])),xI0]
  rfl
theorem VR.oneCell {C:Ctx} {v:Value} {x:AV} (h:VR C v x) (hx:x.one=true):v.oneCell'=true:=by
 cases h <;> first | rfl | simp [AV.one] at hx
theorem VRs.oneCell {C:Ctx}:∀{vs:List Value} {xs:List AV},VRs C vs xs->(∀x ∈ xs,x.one=true)->∀v ∈ vs,v.oneCell'=true
 | _,_,.nil,_,v,hv=>by simp at hv
 | _,_,.cons u x us xs h hs,hx,v,hv=>by
  rcases List.mem_cons.1 hv with rfl | hv
  ·exact h.oneCell (hx x (by simp))
  ·exact hs.oneCell (fun y hy=>hx y (by simp [hy])) v hv
end Go.Proofs.YtnhfofmhkfdpgaaGreatDoor.Vm
