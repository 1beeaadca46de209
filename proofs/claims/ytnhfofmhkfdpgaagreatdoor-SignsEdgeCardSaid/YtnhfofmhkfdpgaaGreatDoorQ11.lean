/- A part of the proof: Vz. -/
import Derived.Test.YtnhfofmhkfdpgaaGreatDoorQ10
set_option linter.unusedVariables false
set_option linter.unusedSimpArgs false
set_option linter.constructorNameAsVariable false
namespace Go.Proofs.YtnhfofmhkfdpgaaGreatDoor.Vm
open Go Go.RowKit
section
variable {P:Program} {g:Glob}
def RK (y:AV) (v:AV) (S:St):Prop:=∃ m,pict S [] m v=some y
theorem Ret.in {f n rs c xs y} (h:Fun' P f n rs c) (hn:decide (xs.length<=n)=true) (hv:vc P g c (entry xs) St.empty (KBody rs (RK y))):Ret P g false f xs y :=
 Ret.of h.call ((h.in (by simpa using hn) hv).mono fun v S hk=>⟨hk,fun h=>by cases h⟩)
theorem RK.stab {y:AV} {S:St} (h:y.stab=true):RK y y S:=⟨1,xAc h⟩
theorem RK.eq {y v:AV} {S:St} (h:v=y) (hs:y.stab=true):RK y v S:=by subst h;exact RK.stab hs
theorem RK.agg {l:List AV} {S:St} (h:∀x ∈ l,x.stab=true):RK (.agg l) (.agg l) S:=⟨2,xQE h⟩
theorem RK.aggEq {l l':List AV} {S:St} (h:l=l') (hs:l'.all AV.stab=true):RK (.agg l') (.agg l) S:=by subst h;exact RK.agg (by simpa using hs)
theorem xCM {c:Prop} [Decidable c] {d op F S K} (h1:c->stepOp P g ⟨d,op,none⟩ F S K) (h2:¬ c->K .none S):Gua P g (.bool (decide c)) true d op F S K:=by
 by_cases h:c
 ·rw [decide_eq_true h];exact h1 h
 ·rw [decide_eq_false h];exact h2 h
theorem xAP {c:Prop} [Decidable c] {d op F S K} (h1:¬ c->stepOp P g ⟨d,op,none⟩ F S K) (h2:c->K .none S):Gua P g (.bool (decide c)) false d op F S K:=by
 by_cases h:c
 ·rw [decide_eq_true h];exact h2 h
 ·rw [decide_eq_false h];exact h1 h
theorem xFH {c:Prop} [Decidable c] {a b F S Q} (h1:¬ c->vc P g a F S Q) (h2:c->vc P g b F S Q):Bra P g (.bool (!decide c)) a b F S Q:=by
 by_cases h:c
 ·rw [decide_eq_true h];exact h2 h
 ·rw [decide_eq_false h];exact h1 h
theorem Dra.auto {l:List VOper} {aft:List (List Nat)} {F:AFrame} {S:St} {Q:Res->Prop} (xs:List Nat) (hm:P.follows .mixedOrders=true) (hc:(decide ((classes xs [] l 0 false).length=l.length) && drawChk (l.zip (classes xs [] l 0 false)) aft)=true) (h:vcDs P g S St.empty l (classes xs [] l 0 false) F S Q):Dra P g l aft F S Q:=drawn _ hm hc h
theorem xOm {t:Bool} {a b F S Q} (h1:t=false->vc P g a F S Q) (h2:t=true->vc P g b F S Q):Bra P g (.bool (!t)) a b F S Q:=by
 cases t
 ·exact h1 rfl
 ·exact h2 rfl
end
def els {α:Type} (e:α->List AV) (l:List α):List (List AV):=l.map e
section
variable {α:Type} {e:α->List AV} {l m:List α}
@[simp] theorem xBf:(els e l).length=l.length:=by simp [els]
@[simp] theorem xOn {i:Nat}:(els e l)[i]?=(l[i]?).map e:=by simp [els]
theorem xAg {i:Nat} {x:α}:(els e l).set i (e x)=els e (l.set i x):=by simp [els,List.map_set]
theorem xA2:els e l ++ els e m=els e (l ++ m):=by simp [els]
theorem xAu {n:Nat}:(els e l).take n=els e (l.take n):=by simp [els,List.map_take]
theorem xLL {n:Nat}:(els e l).drop n=els e (l.drop n):=by simp [els,List.map_drop]
theorem xAh {n:Nat} {x:α}:List.replicate n (e x)=els e (List.replicate n x):=by simp [els]
end
def u64c (n:Nat):List AV:=[.int .u64 n]
def intc (n:Int):List AV:=[.int .i64 n]
def natc (n:Nat):List AV:=[.int .i64 (n:Int)]
def boolc (b:Bool):List AV:=[.bool b]
def AObj.plainO:AObj->Bool
 | .row _ es=>es.all plains
 | .map es=>es.all fun x=>x.1.plain && x.2.plain
 | .loop _ _ _ _ _ _=>false
mutual
theorem xDO {n:Nat}:∀{x:AV},x.plain=true->x.shift n=x
 | .int _ _,_=>rfl
 | .bool _,_=>rfl
 | .str _,_=>rfl
 | .nilptr,_=>rfl
 | .nilsl,_=>rfl
 | .nilmap,_=>rfl
 | .nilfunc,_=>rfl
 | .niliface,_=>rfl
 | .anyi _,_=>rfl
 | .agg cs,h=>by simp only [AV.shift];rw [xCf (by simpa [AV.plain] using h)]
 | .tuple cs,h=>by simp only [AV.shift];rw [xCf (by simpa [AV.plain] using h)]
 | .ptr _ _ _,h=>by simp [AV.plain] at h
 | .fptr _ _,h=>by simp [AV.plain] at h
 | .fsl _ _,h=>by simp [AV.plain] at h
 | .sl _ _ _ _,h=>by simp [AV.plain] at h
 | .asl _ _ _ _ _,h=>by simp [AV.plain] at h
 | .map _,h=>by simp [AV.plain] at h
 | .func _ _ _,h=>by simp [AV.plain] at h
 | .iface _ _,h=>by simp [AV.plain] at h
 | .yield _,h=>by simp [AV.plain] at h
theorem xCf {n:Nat}:∀{xs:List AV},plains xs=true->shifts n xs=xs
 | [],_=>rfl
 | x :: xs,h=>by
  simp only [plains,Bool.and_eq_true] at h
  simp only [shifts];rw [xDO h.1,xCf h.2]
end
theorem xEb {n:Nat}:∀{es:List (List AV)},es.all plains=true->shiftss n es=es
 | [],_=>rfl
 | e :: es,h=>by
  simp only [List.all_cons,Bool.and_eq_true] at h
  simp only [shiftss];rw [xCf h.1,xEb h.2]
theorem xFn {n:Nat}:∀{es:List (AV × AV)},(es.all fun x=>x.1.plain && x.2.plain)=true->shiftm n es=es
 | [],_=>rfl
 | (k,v) :: es,h=>by
  simp only [List.all_cons,Bool.and_eq_true] at h
  simp only [shiftm];rw [xDO h.1.1,xDO h.1.2,xFn h.2]
theorem xC7 {n:Nat} {x:AObj} (h:x.plainO=true):AObj.shift n x=some x:=by
 cases x with
 | row sz es=>simp only [AObj.shift];rw [xEb h]
 | map es=>simp only [AObj.shift];rw [xFn h]
 | loop=>simp [AObj.plainO] at h
theorem xOo {S E:St} {q:Nat} (h:S.next<=q/\q < S.next + E.next):(S.add E).obj q=(E.obj (q - S.next)).bind (AObj.shift S.next):=by
 show (if S.next<=q/\q < S.next + E.next then _ else _)=_
 rw [if_pos h]
theorem xH9 {S E:St} {q:Nat} (h:¬ (S.next<=q/\q < S.next + E.next)):(S.add E).obj q=S.obj q:=by
 show (if S.next<=q/\q < S.next + E.next then _ else _)=_
 rw [if_neg h]
theorem xCg {S:St} {x:AObj}:(S.new x).obj S.next=some x:=by show (if S.next=S.next then _ else _)=_;rw [if_pos rfl]
theorem xA5 {S:St} {x:AObj} {q:Nat} (h:q ≠ S.next):(S.new x).obj q=S.obj q:=by show (if q=S.next then _ else _)=_;rw [if_neg h]
theorem St.add_ofL:∀(l:List AObj) (S:St),(∀x ∈ l,x.plainO=true)->S.add (St.ofL l)=l.foldl St.new S:=by
 intro l
 induction l with
 | nil=>intro S _;exact St.ext' rfl (fun q=>by rw [xH9 (by show ¬ (_/\q < S.next + 0);omega)];rfl)
 | cons x l ih =>
  intro S h
  have:=ih (S.new x) (fun y hy=>h y (by simp [hy]))
  rw [List.foldl_cons,<- this]
  have en:(St.ofL (x :: l)).next=l.length + 1:=rfl
  have en':(St.ofL l).next=l.length:=rfl
  have en2:(S.new x).next=S.next + 1:=rfl
  refine St.ext' (by show S.next + (l.length + 1)=S.next + 1 + l.length;omega) (fun q=>?_)
  by_cases h1:q=S.next
  ·subst h1
   rw [xOo (by rw [en];omega),xH9 (by rw [en',en2];omega),xCg]
   show ((x :: l)[S.next - S.next]?).bind _=_
   rw [Nat.sub_self]
   exact xC7 (h x (by simp))
  ·by_cases h2:S.next<=q/\q < S.next + (l.length + 1)
   ·rw [xOo (by rw [en];exact h2),xOo (by rw [en',en2];omega)]
    obtain ⟨k,rfl⟩:∃ k,q=S.next + 1 + k:=⟨q - (S.next + 1),by omega⟩
    show ((x :: l)[S.next + 1 + k - S.next]?).bind _=((l)[S.next + 1 + k - (S.next + 1)]?).bind _
    have e1:S.next + 1 + k - S.next=k + 1:=by omega
    have e2:S.next + 1 + k - (S.next + 1)=k:=by omega
    rw [e1,e2,List.getElem?_cons_succ]
    cases hl:l[k]? with
    | none=>rfl
    | some z =>
     simp only [Option.bind_some]
     rw [xC7 (h z (by simp [xmG hl])),xC7 (h z (by simp [xmG hl]))]
   ·rw [xH9 (by rw [en];exact h2),xH9 (by rw [en',en2];omega),xA5 h1]
section
variable {P:Program} {g:Glob}
theorem Own.use' {f args S K n xs y objs} (h:Own P g f xs y (St.ofL objs)) (hx:mapOpt (pict S [] n) args=some xs) (hp:objs.all AObj.plainO=true) (hk:K (y.shift S.next) (objs.foldl St.new S)):Cal P g f args S K :=
 h.use hx (by rw [St.add_ofL objs S (by simpa using hp)];exact hk)
theorem Own.b' {f args S0 S K n xs y objs} (h:Own P g f xs y (St.ofL objs)) (hx:mapOpt (pict S0 [] n) args=some xs) (hp:objs.all AObj.plainO=true) (hk:K (y.shift S.next) (objs.foldl St.new S)):BCal P g f args S0 S K :=
 h.b hx (by rw [St.add_ofL objs S (by simpa using hp)];exact hk)
def RO (ρ:List Nat) (objs:List AObj) (y:AV) (v:AV) (S:St):Prop:=AV.ren ρ v=some y/\Kept S ρ ρ objs
theorem Own.in {f n rs c xs y objs} (ρ:List Nat) (h:Fun' P f n rs c) (hn:decide (xs.length<=n)=true) (hρ:decide ρ.Nodup=true) (hv:vc P g c (entry xs) St.empty (KBody rs (RO ρ objs y))):Own P g f xs y (St.ofL objs) :=
 Own.ofRen h.call ρ (by simpa using hρ) (h.in (by simpa using hn) hv)
end
class PlainE {α:Type} (e:α->List AV):Prop where
 out:∀x,plains (e x)=true/\(e x).all AV.stab=true
instance:PlainE u64c:=⟨fun x=>by simp [u64c,AV.stab]⟩
instance:PlainE intc:=⟨fun x=>by simp [intc,AV.stab]⟩
instance:PlainE natc:=⟨fun x=>by simp [natc,AV.stab]⟩
instance:PlainE boolc:=⟨fun x=>by simp [boolc,AV.stab]⟩
section
variable {α:Type} {e:α->List AV} [PlainE e] {l:List α}
@[simp] theorem xWJ {S:St} {own:List Nat} {n:Nat}:mapOpt (mapOpt (pict S own (n + 1))) (els e l)=some (els e l):=by
 refine xKI fun x hx y hy=>?_
 simp only [els,List.mem_map] at hx
 obtain ⟨z,_,rfl⟩:=hx
 have:=(PlainE.out (e:=e) z).2
 simp only [List.all_eq_true] at this
 exact this y hy
@[simp] theorem xOq:(els e l).all plains=true:=by
 simp only [els,List.all_map,List.all_eq_true,Function.comp]
 exact fun x _=>(PlainE.out (e:=e) x).1
end
class OneE {α:Type} (e:α->List AV):Prop where
 out:∀x,okEl 1 (e x)=true
instance:OneE u64c:=⟨fun x=>by simp [u64c]⟩
instance:OneE intc:=⟨fun x=>by simp [intc]⟩
instance:OneE natc:=⟨fun x=>by simp [natc]⟩
instance:OneE boolc:=⟨fun x=>by simp [boolc]⟩
@[simp] theorem xIa {α:Type} {e:α->List AV} [OneE e] {l:List α}:(els e l).all (okEl 1)=true:=by
 simp only [els,List.all_map,List.all_eq_true,Function.comp]
 exact fun x _=>OneE.out x
@[simp] theorem xVe {α:Type} {e:α->List AV} [OneE e] {l:List α}:okAll 1 (els e l)=True:=eq_true xIa
mutual
theorem xOr {ρ:List Nat}:∀{x:AV},x.plain=true->AV.ren ρ x=some x
 | .int _ _,_=>rfl
 | .bool _,_=>rfl
 | .str _,_=>rfl
 | .nilptr,_=>rfl
 | .nilsl,_=>rfl
 | .nilmap,_=>rfl
 | .nilfunc,_=>rfl
 | .niliface,_=>rfl
 | .anyi _,_=>rfl
 | .agg cs,h=>by simp only [AV.ren];rw [xDo (by simpa [AV.plain] using h)];rfl
 | .tuple cs,h=>by simp only [AV.ren];rw [xDo (by simpa [AV.plain] using h)];rfl
 | .ptr _ _ _,h=>by simp [AV.plain] at h
 | .fptr _ _,h=>by simp [AV.plain] at h
 | .fsl _ _,h=>by simp [AV.plain] at h
 | .sl _ _ _ _,h=>by simp [AV.plain] at h
 | .asl _ _ _ _ _,h=>by simp [AV.plain] at h
 | .map _,h=>by simp [AV.plain] at h
 | .func _ _ _,h=>by simp [AV.plain] at h
 | .iface _ _,h=>by simp [AV.plain] at h
 | .yield _,h=>by simp [AV.plain] at h
theorem xDo {ρ:List Nat}:∀{xs:List AV},plains xs=true->rens ρ xs=some xs
 | [],_=>rfl
 | x :: xs,h=>by
  simp only [plains,Bool.and_eq_true] at h
  simp only [rens];rw [xOr h.1,xDo h.2]
end
theorem xGe {ρ:List Nat}:∀{es:List (List AV)},es.all plains=true->renss ρ es=some es
 | [],_=>rfl
 | e :: es,h=>by
  simp only [List.all_cons,Bool.and_eq_true] at h
  simp only [renss];rw [xDo h.1,xGe h.2]
@[simp] theorem xXE {α:Type} {e:α->List AV} [PlainE e] {l:List α} {ρ:List Nat}:renss ρ (els e l)=some (els e l):=xGe xOq
attribute [simp] AObj.plainO Kept AObj.ren AV.shift shifts
@[simp] theorem xWK {ρ n}:AV.ren ρ (.bool n)=some (.bool n):=_root_.id rfl
@[simp] theorem xVf {ρ}:AV.ren ρ .nilsl=some .nilsl:=_root_.id rfl
@[simp] theorem xXG {ρ cs}:AV.ren ρ (.agg cs)=(rens ρ cs).map .agg:=_root_.id rfl
@[simp] theorem xYF {ρ sz o off len}:AV.ren ρ (.sl sz o off len)=(renum ρ o).map fun j=>.sl sz j off len:=_root_.id rfl
@[simp] theorem xWL {ρ}:rens ρ []=some []:=_root_.id rfl
@[simp] theorem xVi {ρ x xs}:rens ρ (x :: xs)=(AV.ren ρ x).bind fun y=>(rens ρ xs).map fun ys=>y :: ys:=by
 simp only [rens];cases AV.ren ρ x <;> cases rens ρ xs <;> rfl
@[simp] theorem xT0 {o q:Nat} {ρ:List Nat}:renum (o :: ρ) q=if q=o then some 0 else (renum ρ q).map (· + 1):=by
 simp only [renum,List.idxOf?_cons]
 by_cases h:o=q
 ·subst h;simp
 ·rw [if_neg (by simpa using h),if_neg (fun e=>h e.symm)]
theorem xCN {S:St} {sz o off len:Nat} {es:List (List AV)} (h:S.obj o=some (.row sz es)) (hl:off + len<=es.length):elems S (.sl sz o off len)=some ((es.drop off).take len):=by
 simp only [elems]
 by_cases h0:len=0
 ·subst h0;simp
 ·rw [if_neg h0,h];simp [hl]
def rowEl (x:Option AObj) (sz off len:Nat):Option (List (List AV)):=match x with
 | some (.row sz' es)=>if sz=sz'/\off + len<=es.length then some ((es.drop off).take len) else none
 | _=>none
@[simp] theorem xJg {sz' es sz off len}:rowEl (some (.row sz' es)) sz off len=if sz=sz'/\off + len<=es.length then some ((es.drop off).take len) else none:=_root_.id rfl
@[simp] theorem xGf {S:St} {sz o off len:Nat}:elems S (.sl sz o off len)=if len=0 then some [] else rowEl (S.obj o) sz off len:=by
 simp only [elems,rowEl]
 congr 1
@[simp] theorem xVl {S:St} {sz:Nat} {es:List (List AV)}:elems S (.fsl sz es)=some es:=_root_.id rfl
@[simp] theorem xSE {S:St}:elems S .nilsl=some []:=_root_.id rfl
@[simp] theorem xWM {S:St} {n sz o off len:Nat}:pict S [] (n + 1) (.sl sz o off len)=(if len=0 then some [] else rowEl (S.obj o) sz off len).bind fun es=>(mapOpt (mapOpt (pict S [] n)) es).map (.fsl sz):=by
 rw [xEJ,xGf]
theorem readAll {α:Type} {e:α->List AV} {l:List α} {k:Nat} (h:l.length=k):(if k=0 then some ([]:List (List AV)) else if k<=l.length then some ((els e l).take k) else none)=some (els e l):=by
 subst h
 by_cases h0:l.length=0
 ·rw [if_pos h0,List.eq_nil_of_length_eq_zero h0];rfl
 ·rw [if_neg h0,if_pos (Nat.le_refl _),xAu,List.take_length]
@[simp] theorem xWN {S:St} {n sz o i off len:Nat}:pict S [] (n + 1) (.asl sz o i off len)=(arrEl (S.obj o) sz i off len).bind fun es=>(mapOpt (mapOpt (pict S [] n)) es).map (.fsl sz):=by
 rw [<- xOl]
 simp only [pict]
 cases elems S (.asl sz o i off len) <;> rfl
def FSl {α:Type} (e:α->List AV) (sz:Nat) (v:AV) (l:List α):Prop:=v=.fsl sz (els e l) \/ (v=.nilsl/\l=[])
section
variable {α:Type} {e:α->List AV} {sz:Nat} {v:AV} {l:List α}
theorem FSl.mk:FSl e sz (.fsl sz (els e l)) l:=.inl rfl
theorem FSl.nil:FSl e sz .nilsl []:=.inr ⟨rfl,rfl⟩
theorem FSl.len (h:FSl e sz v l):lenV v=some l.length:=by
 rcases h with rfl | ⟨rfl,rfl⟩ <;> simp
theorem FSl.idx (h:FSl e sz v l) {k:Nat} {x:α} (hx:l[k]?=some x):pk (.indexAddr sz) [v,.int .i64 (k:Int)]=some (.fptr (e x) 0):=by
 rcases h with rfl | ⟨rfl,rfl⟩
 ·simp [xAL,hx]
 ·simp at hx
theorem FSl.elems {S:St} (h:FSl e sz v l):Vm.elems S v=some (els e l):=by
 rcases h with rfl | ⟨rfl,rfl⟩ <;> simp [els]
theorem FSl.stab (h:FSl e sz v l):v.stab=true:=by
 rcases h with rfl | ⟨rfl,rfl⟩ <;> rfl
theorem FSl.solid (h:FSl e sz v l):v.solid=true:=by
 rcases h with rfl | ⟨rfl,rfl⟩ <;> simp
theorem FSl.pict {S:St} {own:List Nat} {n:Nat} (h:FSl e sz v l):Vm.pict S own (n + 1) v=some v:=xAc h.stab
theorem FSl.cells (h:FSl e sz v l):v.cells=[v]:=by
 rcases h with rfl | ⟨rfl,rfl⟩ <;> rfl
def Has (e:α->List AV) (sz:Nat) (S:St) (v:AV) (l:List α):Prop:=(v=.nilsl/\l=[]) \/ ∃ o,v=.sl sz o 0 l.length/\S.obj o=some (.row sz (els e l))/\l ≠ []
theorem Has.nil {S:St}:Has e sz S .nilsl []:=.inl ⟨rfl,rfl⟩
theorem Has.len {S:St} (h:Has e sz S v l):lenV v=some l.length:=by
 rcases h with ⟨rfl,rfl⟩ | ⟨o,rfl,_⟩ <;> simp
theorem Has.elems {S:St} (h:Has e sz S v l):Vm.elems S v=some (els e l):=by
 rcases h with ⟨rfl,rfl⟩ | ⟨o,rfl,ho,hne⟩
 ·simp [els]
 ·simp only [xGf,ho,xJg,Nat.zero_add,List.drop_zero,xBf]
  rw [if_neg (by simpa using hne),if_pos (by simp),xAu,List.take_length]
def Has.apart (v:AV) (q:Nat):Prop:=∀sz off len,v ≠ .sl sz q off len
theorem Has.keep {S S':St} (h:Has e sz S v l) (hk:∀q,(∃ len,v=.sl sz q 0 len)->S'.obj q=S.obj q):Has e sz S' v l:=by
 rcases h with ⟨rfl,rfl⟩ | ⟨o,rfl,ho,hne⟩
 ·exact .inl ⟨rfl,rfl⟩
 ·exact .inr ⟨o,rfl,by rw [hk o ⟨_,rfl⟩];exact ho,hne⟩
theorem xOs {S:St} {x:α} {K:AV × St->Prop} (h:Has e sz S v l) (hok:okEl sz (e x)=true) (hr:l.length + 1<=room)
  (hk:∀S',Has e sz S' (.sl sz S.next 0 (l.length + 1)) (l ++ [x])->S'.next=S.next + 1->(∀q,q ≠ S.next->(∀len,v ≠ .sl sz q 0 len)->S'.obj q=S.obj q)->K (.sl sz S.next 0 (l.length + 1),S')):Ok (appV sz v S [e x]) K:=by
 have h1:¬ ([e x].length > room \/ ¬ okAll sz [e x]):=by
  simp only [xMM,xOj,and_true,hok,not_true,or_false,List.length_singleton,room];omega
 have hel:els e (l ++ [x])=els e l ++ [e x]:=by simp [els]
 rcases h with ⟨rfl,rfl⟩ | ⟨o,rfl,ho,hne⟩
 ·rw [xFG,if_neg (by simp),if_neg h1,ok_some]
  refine hk _ (.inr ⟨S.next,rfl,?_,by simp⟩) rfl (fun q hq _=>?_)
  ·rw [xCg];simp [els]
  ·exact xA5 hq
 ·rw [xH8,if_neg (by simp),if_neg h1,ho,xGd,Option.bind_some,if_pos ⟨rfl,rfl,by simp,by simpa using hr⟩,ok_some]
  refine hk _ (.inr ⟨S.next,by simp,?_,by simp⟩) rfl (fun q hq hv=>?_)
  ·have:(S.drop o).next=S.next:=rfl
   rw [<- this,xCg];simp [xAu,hel]
  ·rw [xA5 (by exact hq)]
   simp only [xH7]
   rw [if_neg (by rintro rfl;exact hv _ rfl)]
theorem Has.idx {S:St} (h:Has e sz S v l) {k:Nat} {x:α} (hx:l[k]?=some x):∃ o,v=.sl sz o 0 l.length/\S.obj o=some (.row sz (els e l))/\pk (.indexAddr sz) [v,.int .i64 (k:Int)]=some (.ptr o k 0):=by
 rcases h with ⟨rfl,rfl⟩ | ⟨o,rfl,ho,hne⟩
 ·simp at hx
 ·have:=(xgS hx).1
  exact ⟨o,rfl,ho,by rw [xEa,if_pos ⟨by omega,by omega⟩];simp⟩
end
def encF {α:Type} (e:α->List AV) (sz:Nat) (l:List α):AV:=if l=[] then .nilsl else .fsl sz (els e l)
theorem Has.pict {α:Type} {e:α->List AV} [PlainE e] {sz:Nat} {S:St} {v:AV} {l:List α} {n:Nat} (h:Has e sz S v l):Vm.pict S [] (n + 2) v=some (encF e sz l):=by
 have he:=h.elems
 rcases h with ⟨rfl,rfl⟩ | ⟨o,rfl,ho,hne⟩
 ·simp [encF]
 ·rw [xEJ,he];simp [encF,hne]
def Sep (v w:AV):Prop:=∀sz sz' q a b,v=.sl sz q 0 a->w=.sl sz' q 0 b->False
def Bel (S:St) (v:AV):Prop:=∀sz q a,v=.sl sz q 0 a->q < S.next
theorem Bel.nil {S:St}:Bel S .nilsl:=fun _ _ _ h=>by cases h
theorem Bel.sl {S:St} {sz q a:Nat} (h:q < S.next):Bel S (.sl sz q 0 a):=fun _ _ _ e=>by cases e;exact h
theorem Bel.mono {S S':St} {v:AV} (h:Bel S v) (hn:S.next<=S'.next):Bel S' v:=fun sz q a e=>Nat.lt_of_lt_of_le (h sz q a e) hn
theorem Sep.nilL {v:AV}:Sep .nilsl v:=fun _ _ _ _ _ h=>by cases h
theorem Sep.fresh {S:St} {v:AV} {sz a:Nat} (h:Bel S v):Sep v (.sl sz S.next 0 a):=fun sz1 sz2 q a1 b1 e1 e2=>by
 cases e2
 exact Nat.lt_irrefl _ (h _ _ _ e1)
theorem Has.new {α:Type} {e:α->List AV} {sz:Nat} {S:St} {v:AV} {l:List α} {x:AObj} (h:Has e sz S v l) (hb:Bel S v):Has e sz (S.new x) v l :=
 h.keep fun _ ⟨_,hq⟩=>xA5 (Nat.ne_of_lt (hb _ _ _ hq))
theorem xA7 {α:Type} {e:α->List AV} {sz:Nat} {S:St} {v:AV} {l:List α} {x:α} {K:AV × St->Prop} (h:Has e sz S v l) (hok:okEl sz (e x)=true) (hr:l.length + 1<=room)
  (hk:∀S',Has e sz S' (.sl sz S.next 0 (l.length + 1)) (l ++ [x])->S'.next=S.next + 1->(∀q,q < S.next->(∀len,v ≠ .sl sz q 0 len)->S'.obj q=S.obj q)->K (.sl sz S.next 0 (l.length + 1),S')):Ok (appV sz v S [e x]) K :=
 xOs h hok hr fun S' h1 h2 h3=>hk S' h1 h2 fun q hq=>h3 q (Nat.ne_of_lt hq)
def encO (sz:Nat) {α:Type} (l:List α):AV:=if l=[] then .nilsl else .sl sz 0 0 l.length
def objO {α:Type} (e:α->List AV) (sz:Nat) (l:List α):List AObj:=if l=[] then [] else [.row sz (els e l)]
theorem xAl {α:Type} {e:α->List AV} {sz:Nat} {l:List α}:FSl e sz (encF e sz l) l:=by
 unfold encF
 split
 ·rename_i h;exact .inr ⟨rfl,h⟩
 ·exact .inl rfl
section
variable {P:Program} {g:Glob} {α:Type} {e:α->List AV} {sz:Nat} {l:List α}
abbrev OwnL (P:Program) (g:Glob) {α:Type} (e:α->List AV) (sz:Nat) (f:Nat) (xs:List AV) (l:List α):Prop:=Own P g f xs (encO sz l) (St.ofL (objO e sz l))
theorem OwnL.in [PlainE e] {f n rs c xs} (h:Fun' P f n rs c) (hn:decide (xs.length<=n)=true) (hv:vc P g c (entry xs) St.empty (KBody rs (fun v S=>Has e sz S v l))):OwnL P g e sz f xs l:=by
 refine Own.ofRenE h.call ((h.in (by simpa using hn) hv).mono fun v S hk=>?_)
 rcases hk with ⟨rfl,rfl⟩ | ⟨o,rfl,ho,hne⟩
 ·exact ⟨[],by simp,by simp [encO],by simp [objO]⟩
 ·exact ⟨[o],by simp,by simp [encO,hne],by simp [objO,hne,ho]⟩
theorem OwnL.use [PlainE e] {f args S K n xs} (h:OwnL P g e sz f xs l) (hx:mapOpt (pict S [] n) args=some xs) (hk:∀v S',Has e sz S' v l->(l=[]/\v=.nilsl/\S'=S) \/ (v=.sl sz S.next 0 l.length/\S'=S.new (.row sz (els e l)))->K v S'):Cal P g f args S K:=by
 refine h.use' hx (by unfold objO;split <;> simp) ?_
 unfold encO objO
 by_cases hl:l=[]
 ·subst hl;simp;exact hk _ _ .nil (.inl ⟨rfl,rfl,rfl⟩)
 ·simp [hl];exact hk _ _ (.inr ⟨S.next,rfl,by rw [xCg],hl⟩) (.inr ⟨rfl,rfl⟩)
theorem OwnL.ret [PlainE e] {f xs} (h:OwnL P g e sz f xs l):Ret P g true f xs (encF e sz l):=by
 refine Own.ret (m:=9) h ?_
 unfold encO objO encF
 by_cases hl:l=[]
 ·simp [hl]
 ·have:=readAll (e:=e) (l:=l) rfl
  simp [hl,St.ofL]
  rw [xAu,List.take_length];simp
end
@[simp] theorem xR0 {n:Nat}:((n:Int) < 0)=False:=eq_false (by omega)
theorem xAa {n:Int} (h:-9223372036854775808<=n/\n<=9223372036854775807):IntKind.i64.wrap n=n:=IntWalk.i64_in n h
theorem wrapS (k:Nat) (h:(k:Int) + 1<=9223372036854775807):IntKind.i64.wrap ((k:Int) + 1)=((k + 1:Nat):Int):=by rw [xAa (by omega)];omega
end Go.Proofs.YtnhfofmhkfdpgaaGreatDoor.Vm
