/- A part of the proof: Vd Ve Vf. -/
import Derived.WalkKit
import Derived.Test.YtnhfofmhkfdpgaaGreatDoorQ00
set_option linter.unusedVariables false
set_option linter.unusedSimpArgs false
set_option linter.constructorNameAsVariable false
namespace Go.Proofs.YtnhfofmhkfdpgaaGreatDoor.Vm
open Go Go.RowKit
def FrameOK (C:Ctx) (F:AFrame) (a:Act):Prop:=∀t,VR C (a.tmps.getD t undef) (F t)
theorem xC0 (C:Ctx) {v:Value} {x:AV} (h:ofCell v=some x):VR C v x:=by
 unfold ofCell at h
 split at h <;> simp at h <;> subst h <;> constructor
theorem xAs {α β:Type} {f:α->Option β}:∀{l:List α} {m:List β},mapOpt f l=some m->(l=[]/\m=[]) \/ ∃ x xs y ys,l=x :: xs/\m=y :: ys/\f x=some y/\mapOpt f xs=some ys
 | [],m,h=>by simp [mapOpt] at h;exact .inl ⟨rfl,h⟩
 | x :: xs,m,h=>by
  simp only [mapOpt] at h
  split at h
  ·rename_i y ys h1 h2;simp at h;exact .inr ⟨x,xs,y,ys,rfl,h.symm,h1,h2⟩
  ·simp at h
theorem xBP (C:Ctx):∀{vs:List Value} {xs:List AV},mapOpt ofCell vs=some xs->VRs C vs xs
 | vs,xs,h=>by
  rcases xAs h with ⟨rfl,rfl⟩ | ⟨v,vs',x,xs',rfl,rfl,h1,h2⟩
  ·exact .nil
  ·exact .cons _ _ _ _ (xC0 C h1) (xBP C h2)
 termination_by vs=>vs.length
theorem xD0 (C:Ctx) {v:Value} {x:AV} (h:ofValue v=some x):VR C v x:=by
 unfold ofValue at h
 split at h
 ·rename_i cs
  simp only [Option.map_eq_some_iff] at h
  obtain ⟨xs,h1,rfl⟩:=h
  exact .agg cs.toList xs (xBP C h1)
 ·exact xC0 C h
theorem xAf {C:Ctx} {F:AFrame} {a:Act} (hF:FrameOK C F a) {x:Operand} {vx:VX} (h:cx x=some vx):VR C (a.eval x) (vx.eval F):=by
 cases x <;> simp [cx] at h
 ·subst h;exact hF _
 ·obtain ⟨y,h1,rfl⟩:=h;exact xD0 C h1
 ·subst h;exact .func (.func _) [] [] [] [] .nil .nil
theorem xAI {C:Ctx} {F:AFrame} {a:Act} (hF:FrameOK C F a):∀{l:List Operand} {xs:List VX},mapOpt cx l=some xs->VRs C (l.map a.eval) (xs.map (VX.eval F))
 | l,xs,h=>by
  rcases xAs h with ⟨rfl,rfl⟩ | ⟨v,vs',x,xs',rfl,rfl,h1,h2⟩
  ·exact .nil
  ·exact .cons _ _ _ _ (xAf hF h1) (xAI hF h2)
 termination_by l=>l.length
theorem VR.int_inv {C:Ctx} {v:Value} {k:IntKind} {n:Int} (h:VR C v (.int k n)):v=.int k n:=by cases h;rfl
theorem VR.bool_inv {C:Ctx} {v:Value} {b:Bool} (h:VR C v (.bool b)):v=.bool b:=by cases h;rfl
theorem VR.str_inv {C:Ctx} {v:Value} {s:ByteArray} (h:VR C v (.str s)):v=.string s:=by cases h;rfl
def Does (P:Program) (C:Ctx) (a:Act) (o:Oper) (y:AV):Prop:=∃ v,(execOp a.eval o).run P C.w=.ok (.value v) C.w/\VR C v y
section
variable {P:Program} {C:Ctx} {F:AFrame} {a:Act} {o:Oper}
theorem xIV (hF:FrameOK C F a) {x:Operand} (ho:o.op=.move x \/ o.op=.assign x) {vx:VX} (hx:cx x=some vx) {y:AV} (hy:pk .move [vx.eval F]=some y):Does P C a o y:=by
 simp [pk] at hy;subst hy
 rcases ho with ho | ho <;> exact ⟨a.eval x,by simp [execOp,ho],xAf hF hx⟩
theorem xNQ (hF:FrameOK C F a) {c x y:Operand} (ho:o.op=.pick c x y) {vc vx vy:VX} (hc:cx c=some vc) (hx:cx x=some vx) (hy:cx y=some vy) {z:AV}
  (hz:pk .pick [vc.eval F,vx.eval F,vy.eval F]=some z):Does P C a o z:=by
 have h1:=xAf hF hc
 simp only [pk] at hz
 split at hz
 ·rename_i b p q e
  simp only [List.cons.injEq,and_true] at e
  obtain ⟨e1,e2,e3⟩:=e
  rw [e1] at h1
  have h1:=h1.bool_inv
  simp at hz;subst hz
  refine ⟨if b then a.eval x else a.eval y,by simp [execOp,ho,h1,asBool],?_⟩
  cases b
  ·rw [<- e3];exact xAf hF hy
  ·rw [<- e2];exact xAf hF hx
 ·simp at hz
theorem xAb {P:Program} {t:TypeId} {d:TypeDesc} (h:P.underlying t=some d) (w:World):(underlying t).run P w=.ok d w:=by simp [underlying,h]
theorem xAW {P:Program} {t:TypeId} {d:TypeInfo} (h:P.info? t=some d) (w:World):(typeInfo t).run P w=.ok d w:=by simp [typeInfo,h]
theorem xAp {P:Program} {t:TypeId} {n:Nat} (h:sizeT P t=some n) (w:World):(sizeOf t).run P w=.ok n w:=by
 unfold sizeT at h
 simp only [Option.map_eq_some_iff] at h
 obtain ⟨i,h1,rfl⟩:=h
 simp [sizeOf,typeInfo,h1]
theorem xAJ {P:Program} {t:TypeId} {z:Value} (h:zeroT P t=some z) (w:World):(zeroValue t).run P w=.ok z w:=by
 unfold zeroT at h
 simp only [xoB] at h
 obtain ⟨i,h1,h2⟩:=h
 simp [zeroValue,typeInfo,h1,h2]
theorem xIW {P:Program} {t:TypeId} {g:Bool} (h:aggT P t=some g) (w:World):(isAgg t).run P w=.ok g w:=by
 unfold aggT at h
 simp only [Option.map_eq_some_iff] at h
 obtain ⟨d,h1,rfl⟩:=h
 simp only [isAgg,Sem.run_bind,xAb h1,Result.andThen_ok]
 cases d <;> simp [isAggD]
theorem xKt (w:World) (op:BinOp) (t:TypeId) (x y:Operand) (k k':IntKind) (m n:Int):(eqGuard op t x y (.int k m) (.int k' n)).run P w=.ok () w:=by
 simp only [eqGuard];split <;> simp
theorem xNR (hF:FrameOK C F a) {op:BinOp} {t t':TypeId} {x y:Operand} (ho:o.op=.binOp op t x y t') {vx vy:VX} (hx:cx x=some vx) (hy:cx y=some vy) {z:AV}
  (hz:pk (.ibin op) [vx.eval F,vy.eval F]=some z):Does P C a o z:=by
 have h1:=xAf hF hx
 have h2:=xAf hF hy
 simp only [pk] at hz
 split at hz
 ·rename_i k m k' n e
  simp only [List.cons.injEq,and_true] at e
  obtain ⟨e1,e2⟩:=e
  rw [e1] at h1;rw [e2] at h2
  have h1:=h1.int_inv;have h2:=h2.int_inv
  unfold Does
  simp only [execOp,ho,h1,h2,Sem.run_bind,xKt,Result.andThen_ok]
  split at hz
  ·rename_i hs
   unfold ishift at hz
   split at hz
   ·simp at hz
   ·rename_i hn
    rcases hs with rfl | rfl
    ·simp at hz;subst hz;exact ⟨_,by simp [binOp,Op.shift,hn],.int _ _⟩
    ·simp at hz;subst hz;exact ⟨_,by simp [binOp,Op.shift,hn],.int _ _⟩
  ·rename_i hs
   split at hz
   ·rename_i hk
    subst hk
    unfold ibin at hz
    cases op <;> simp only [reduceCtorEq,or_self,or_true,true_or,not_true_eq_false,false_or,or_false,not_false_eq_true] at hs <;> simp only [reduceCtorEq] at hz
    case quo=>split at hz <;> simp at hz;subst hz;rename_i hn;exact ⟨_,by simp [binOp,Op.intDiv,hn],.int _ _⟩
    case rem=>split at hz <;> simp at hz;subst hz;rename_i hn;exact ⟨_,by simp [binOp,Op.intDiv,hn],.int _ _⟩
    all_goals
     simp only [xoI] at hz
     subst hz
     refine ⟨_,?_,by first | exact .int _ _ | exact .bool _⟩
     simp [binOp,Op.intArith,Op.intBits,Op.intCmp]
   ·simp at hz
 ·simp at hz
theorem xGY (w:World) {t:TypeId} (a b:Bool) (h:P.underlying t=some .bool):(Op.equal t (.bool a) (.bool b)).run P w=.ok (a == b) w:=by
 exact run_equalIn_bool w 9999 t a b h
theorem xNS (hF:FrameOK C F a) {neg:Bool} {t t':TypeId} {x y:Operand} (ho:o.op=.binOp (if neg then .neq else .eql) t x y t') (ht:P.underlying t=some .bool) {vx vy:VX} (hx:cx x=some vx) (hy:cx y=some vy) {z:AV}
  (hz:pk (.bbin neg) [vx.eval F,vy.eval F]=some z):Does P C a o z:=by
 have h1:=xAf hF hx
 have h2:=xAf hF hy
 simp only [pk] at hz
 split at hz
 ·rename_i m n e
  simp only [List.cons.injEq,and_true] at e
  obtain ⟨e1,e2⟩:=e
  rw [e1] at h1;rw [e2] at h2
  have h1:=h1.bool_inv;have h2:=h2.bool_inv
  simp at hz;subst hz
  refine ⟨_,?_,.bool _⟩
  cases neg <;> simp [execOp,ho,h1,h2,eqGuard,binOp,xGY C.w _ _ ht]
 ·simp at hz
theorem xNT (hF:FrameOK C F a) {op:BinOp} {t t':TypeId} {x y:Operand} (ho:o.op=.binOp op t x y t') {vx vy:VX} (hx:cx x=some vx) (hy:cx y=some vy) {z:AV}
  (hz:pk (.sbin op) [vx.eval F,vy.eval F]=some z):Does P C a o z:=by
 have h1:=xAf hF hx
 have h2:=xAf hF hy
 simp only [pk] at hz
 split at hz
 ·rename_i m n e
  simp only [List.cons.injEq,and_true] at e
  obtain ⟨e1,e2⟩:=e
  rw [e1] at h1;rw [e2] at h2
  have h1:=h1.str_inv;have h2:=h2.str_inv
  unfold sbin at hz
  cases op <;> simp only [reduceCtorEq] at hz
  case add =>
   split at hz
   ·simp at hz
   ·rename_i hn
    simp only [xoI] at hz;subst hz
    refine ⟨_,?_,.str _⟩
    simp only [execOp,ho,h1,h2,Sem.run_bind,eqGuard,binOp,Op.stringOp]
    rw [if_neg hn]
    simp
  all_goals
   simp only [xoI] at hz
   subst hz
   refine ⟨_,?_,.bool _⟩
   simp [execOp,ho,h1,h2,eqGuard,binOp,Op.stringOp]
 ·simp at hz
theorem xDJ (w:World) (d:Nat) {t e:TypeId} (q:Option Addr) (h:P.underlying t=some (.pointer e)):(Op.equalIn (d + 1) t (.pointer q) (.pointer none)).run P w=.ok q.isNone w:=by
 cases q <;> simp [Op.equalIn,xAb h]
theorem xEB (w:World) {t e:TypeId} (q:Option Addr) (h:P.underlying t=some (.pointer e)):(Op.equal t (.pointer q) (.pointer none)).run P w=.ok q.isNone w:=by
 exact xDJ w 9999 q h
theorem xKu (hF:FrameOK C F a) {neg:Bool} {t t' e:TypeId} {x:Operand} (ho:o.op=.binOp (if neg then .neq else .eql) t x (.const (.pointer none)) t') (ht:P.underlying t=some (.pointer e)) {vx:VX} (hx:cx x=some vx) {z:AV}
  (hz:pk (.ptrNil neg) [vx.eval F]=some z):Does P C a o z:=by
 have h1:=xAf hF hx
 simp only [pk] at hz
 have key:∀q:Option Addr,a.eval x=.pointer q->Does P C a o (.bool (if q.isNone then !neg else neg)):=by
  intro q hq
  refine ⟨_,?_,.bool _⟩
  have hc:a.eval (.const (.pointer none))=.pointer none:=rfl
  cases neg <;> cases q <;> simp [execOp,ho,hq,hc,eqGuard,binOp,xEB C.w _ ht]
 split at hz
 all_goals first
  | (rename_i e;simp only [List.cons.injEq,and_true] at e;rw [e] at h1;simp at hz;subst hz;generalize hv:a.eval x=v at h1;cases h1;exact key _ hv)
  | (rename_i e;simp only [List.cons.injEq,and_true] at e;rw [e] at h1;simp at hz)
  | simp at hz
theorem xC1 (w:World) (d:Nat) {t:TypeId} {ms:Array (String × TypeId)} (h:P.underlying t=some (.interface ms)) :
  (∀u v,(Op.equalIn (d + 1) t (.iface u v) .nilIface).run P w=.ok false w)/\(Op.equalIn (d + 1) t .nilIface .nilIface).run P w=.ok true w:=by
 refine ⟨fun u v=>?_,?_⟩ <;> simp [Op.equalIn,xAb h]
theorem xDK (w:World) {t:TypeId} {ms:Array (String × TypeId)} (h:P.underlying t=some (.interface ms)) :
  (∀u v,(Op.equal t (.iface u v) .nilIface).run P w=.ok false w)/\(Op.equal t .nilIface .nilIface).run P w=.ok true w:=by
 exact xC1 w 9999 h
theorem xMz (hF:FrameOK C F a) {neg:Bool} {t t':TypeId} {ms:Array (String × TypeId)} {x:Operand} (ho:o.op=.binOp (if neg then .neq else .eql) t x (.const .nilIface) t') (ht:P.underlying t=some (.interface ms)) {vx:VX} (hx:cx x=some vx) {z:AV}
  (hz:pk (.ifNil neg) [vx.eval F]=some z):Does P C a o z:=by
 have h1:=xAf hF hx
 simp only [pk] at hz
 have hc:a.eval (.const .nilIface)=.nilIface:=rfl
 obtain ⟨k1,k2⟩:=xDK C.w ht
 split at hz
 ·rename_i u v e
  simp only [List.cons.injEq,and_true] at e
  rw [e] at h1;simp at hz;subst hz
  generalize hv:a.eval x=q at h1
  cases h1
  refine ⟨_,?_,.bool _⟩
  cases neg <;> simp [execOp,ho,hv,hc,eqGuard,binOp,k1]
 ·rename_i e
  simp only [List.cons.injEq,and_true] at e
  rw [e] at h1;simp at hz;subst hz
  generalize hv:a.eval x=q at h1
  cases h1
  refine ⟨_,?_,.bool _⟩
  cases neg <;> simp [execOp,ho,hv,hc,eqGuard,binOp,k2]
 ·simp at hz
theorem xSj (hF:FrameOK C F a) {op:UnOp} {t:TypeId} {x:Operand} (ho:o.op=.unOp op t x) {vx:VX} (hx:cx x=some vx) {z:AV} (hz:pk (.un op) [vx.eval F]=some z):Does P C a o z:=by
 have h1:=xAf hF hx
 simp only [pk] at hz
 split at hz
 ·rename_i b e
  simp only [List.cons.injEq,and_true] at e
  rw [e] at h1;have h1:=h1.bool_inv
  simp at hz;subst hz
  exact ⟨_,by simp [execOp,ho,h1,Op.unary],.bool _⟩
 ·rename_i k n e
  simp only [List.cons.injEq,and_true] at e
  rw [e] at h1;have h1:=h1.int_inv
  simp only [xoI] at hz;subst hz
  exact ⟨_,by simp [execOp,ho,h1,Op.unary,Op.intArith],.int _ _⟩
 ·simp at hz
theorem xNU (hF:FrameOK C F a) {s d:TypeId} {x:Operand} {j k:IntKind} (ho:o.op=.convert s d x) (hs:P.underlying s=some (.int j)) (hd:P.underlying d=some (.int k)) {vx:VX} (hx:cx x=some vx) {z:AV}
  (hz:pk (.convInt k) [vx.eval F]=some z):Does P C a o z:=by
 have h1:=xAf hF hx
 simp only [pk] at hz
 split at hz
 ·rename_i q n e
  simp only [List.cons.injEq,and_true] at e
  rw [e] at h1;have h1:=h1.int_inv
  simp at hz;subst hz
  exact ⟨_,by simp [execOp,ho,h1,convert,xAb hs,xAb hd,Conv.intToInt],.int _ _⟩
 ·simp at hz
theorem xMA (hF:FrameOK C F a) {t:TypeId} {d:TypeDesc} {x:Operand} (ho:o.op=.makeInterface t x) (ht:P.underlying t=some d) (hd:∀ms,d ≠ .interface ms) {vx:VX} (hx:cx x=some vx) {z:AV}
  (hz:pk (.iface t) [vx.eval F]=some z):Does P C a o z:=by
 have h1:=xAf hF hx
 simp [pk] at hz;subst hz
 refine ⟨_,?_,.iface t _ _ h1⟩
 simp only [execOp,ho,Sem.run_bind,Instr.makeInterface,xAb ht,Result.andThen_ok]
 cases d <;> first | simp | exact absurd rfl (hd _)
theorem xKv (hF:FrameOK C F a) {fn:Fn} {first captured:Array Operand} (ho:o.op=.makeFunc fn first captured) {xs ys:List VX} (hx:mapOpt cx first.toList=some xs) (hy:mapOpt cx captured.toList=some ys) {z:AV}
  (hz:pk (.mkfunc fn first.size) ((xs ++ ys).map (VX.eval F))=some z):Does P C a o z:=by
 have h1:=xAI hF hx
 have h2:=xAI hF hy
 have hl:first.size=(xs.map (VX.eval F)).length:=by have:=h1.length;simpa using this
 simp only [pk,List.map_append] at hz
 rw [hl] at hz
 simp only [List.length_append,Nat.le_add_right,if_true,List.take_left',List.drop_left',xoI] at hz
 subst hz
 refine ⟨.func fn (first.toList.map a.eval).toArray (captured.toList.map a.eval).toArray,?_,.func _ _ _ _ _ h1 h2⟩
 have e1:∀l:Array Operand,l.map a.eval=(l.toList.map a.eval).toArray:=fun l=>by apply Array.ext';simp
 simp only [execOp,ho,Sem.run_bind,Instr.makeFunc,Sem.run_pure,Result.andThen_ok,e1]
theorem xIX (hF:FrameOK C F a) {i:Nat} {x:Operand} (ho:o.op=.extract x i) {vx:VX} (hx:cx x=some vx) {z:AV} (hz:pk (.extract i) [vx.eval F]=some z):Does P C a o z:=by
 have h1:=xAf hF hx
 simp only [pk] at hz
 split at hz
 ·rename_i vs e
  simp only [List.cons.injEq,and_true] at e
  rw [e] at h1
  generalize hv:a.eval x=q at h1
  cases h1
  rename_i us h1
  obtain ⟨v,h2,h3⟩:=h1.get hz
  exact ⟨v,by simp [execOp,ho,hv,Instr.extract,h2],h3⟩
 ·simp at hz
end
theorem xAO {α:Type} {sz:Nat}:∀{es:List (List α)},(∀e ∈ es,e.length=sz)->es.flatten.length=es.length * sz
 | [],_=>by simp
 | e :: es,h=>by
  have h1:=h e (by simp)
  have h2:=xAO (es:=es) (fun x hx=>h x (by simp [hx]))
  simp [h1,h2,Nat.add_mul];omega
theorem xBE {α:Type} {sz:Nat}:∀{es:List (List α)} (n:Nat),(∀e ∈ es,e.length=sz)->(es.drop n).flatten=es.flatten.drop (n * sz)
 | es,0,_=>by simp
 | [],n + 1,_=>by simp
 | e :: es,n + 1,h=>by
  have h1:=h e (by simp)
  have h2:=xBE (es:=es) n (fun x hx=>h x (by simp [hx]))
  simp only [List.drop_succ_cons,h2,List.flatten_cons]
  rw [List.drop_append,List.drop_eq_nil_of_le (as:=e) (by rw [h1,Nat.add_mul];omega),h1,List.nil_append]
  congr 1
  rw [Nat.add_mul];omega
theorem xBi {α:Type} {sz:Nat}:∀{es:List (List α)} (n:Nat),(∀e ∈ es,e.length=sz)->(es.take n).flatten=es.flatten.take (n * sz)
 | es,0,_=>by simp
 | [],n + 1,_=>by simp
 | e :: es,n + 1,h=>by
  have h1:=h e (by simp)
  have h2:=xBi (es:=es) n (fun x hx=>h x (by simp [hx]))
  simp only [List.take_succ_cons,h2,List.flatten_cons]
  rw [List.take_append,List.take_of_length_le (l:=e) (by rw [h1,Nat.add_mul];omega),h1]
  congr 2
  rw [Nat.add_mul];omega
theorem xHR {α:Type} {sz:Nat} {es:List (List α)} {i:Nat} {e:List α} (h:∀e ∈ es,e.length=sz) (hi:es[i]?=some e):(es.flatten.drop (i * sz)).take sz=e:=by
 rw [<- xBE i h]
 obtain ⟨hlt,he⟩:=xgS hi
 rw [List.drop_eq_getElem_cons hlt]
 have:=h e (by rw [<- he];exact List.getElem_mem hlt)
 rw [he,List.flatten_cons,List.take_append,List.take_of_length_le (l:=e) (by omega)]
 simp [this]
theorem Cells.drop {w:World} {b q:Nat} {vs:List Value} (h:Cells w b q vs) (n:Nat):Cells w b (q + n) (vs.drop n):=by
 intro j v hj
 rw [List.getElem?_drop] at hj
 rw [show q + n + j=q + (n + j) by omega]
 exact h _ _ hj
theorem Cells.take {w:World} {b q:Nat} {vs:List Value} (h:Cells w b q vs) (n:Nat):Cells w b q (vs.take n):=by
 intro j v hj
 rw [List.getElem?_take] at hj
 split at hj
 ·exact h _ _ hj
 ·simp at hj
theorem xBv (b q n:Nat):(⟨b,q,none⟩:Addr).add n=⟨b,q + n,none⟩:=by
 unfold Addr.add;split <;> simp_all
section
variable {P:Program} {C:Ctx} {F:AFrame} {a:Act} {o:Oper}
theorem xBV {t:TypeId} {g:Bool} {off sz:Nat} {vs:List Value} {cs:List AV} {y:AV} (hg:aggT P t=some g) (hs:sizeT P t=some sz) (hv:VRs C vs cs) (hy:partV g cs off sz=some y) (w:World) :
  ∃ v,(part t vs.toArray off).run P w=.ok v w/\VR C v y:=by
 simp only [part,Sem.run_bind,xIW hg,Result.andThen_ok]
 unfold partV at hy
 cases g
 ·simp only [Bool.false_eq_true,if_false] at hy ⊢
  obtain ⟨v,h1,h2⟩:=hv.get hy
  exact ⟨v,by simp [h1],h2⟩
 ·simp only [if_true] at hy ⊢
  split at hy
  ·simp at hy;subst hy
   refine ⟨.agg ((vs.drop off).take sz).toArray,?_,.agg _ _ ((hv.drop off).take sz)⟩
   simp only [Sem.run_bind,xAp hs,Result.andThen_ok,Sem.run_pure]
   congr 2
   apply Array.ext'
   simp [List.extract]
  ·simp at hy
theorem xMB (hF:FrameOK C F a) {t:TypeId} {i:Nat} {x:Operand} (ho:o.op=.field t x i) {f:Field} (hf:fieldT P t i=some f) {n:Nat} (hn:sizeT P f.type=some n) {g:Bool} (hg:aggT P f.type=some g)
  {vx:VX} (hx:cx x=some vx) {z:AV} (hz:pk (.field g f.offset n) [vx.eval F]=some z):Does P C a o z:=by
 have h1:=xAf hF hx
 simp only [pk] at hz
 split at hz
 ·rename_i cs e
  simp only [List.cons.injEq,and_true] at e
  rw [e] at h1
  generalize hv:a.eval x=q at h1
  cases h1
  rename_i us h1
  unfold fieldT at hf
  split at hf
  ·rename_i fs hu
   obtain ⟨v,h2,h3⟩:=xBV (P:=P) hg hn h1 hz C.w
   refine ⟨v,?_,h3⟩
   simp [execOp,ho,hv,Instr.field,xAb hu,hf,asAgg,h2]
  ·simp at hf
 ·simp at hz
theorem xGZ (hF:FrameOK C F a) {t:TypeId} {i:Nat} {x:Operand} (ho:o.op=.fieldAddr t x i) {f:Field} (hf:fieldT P t i=some f) {n:Nat} (hn:sizeT P f.type=some n) (hn0:0 < n)
  {vx:VX} (hx:cx x=some vx) {z:AV} (hz:pk (.fieldAddr f.offset) [vx.eval F]=some z):Does P C a o z:=by
 have h1:=xAf hF hx
 unfold fieldT at hf
 split at hf
 ·rename_i fs hu
  have key:∀b q,a.eval x=.pointer (some ⟨b,q,none⟩)->(execOp a.eval o).run P C.w=.ok (.value (.pointer (some ⟨b,q + f.offset,none⟩))) C.w:=by
   intro b q hq
   have:n ≠ 0:=by omega
   simp [execOp,ho,hq,Instr.fieldAt,xAb hu,hf,Instr.sureAddr,fieldPlace,xAp hn,this,xBv]
  simp only [pk] at hz
  split at hz
  ·rename_i p i q e
   simp only [List.cons.injEq,and_true] at e
   rw [e] at h1;simp at hz;subst hz
   generalize hv:a.eval x=v at h1
   cases h1
   rename_i l hl
   refine ⟨_,key _ _ hv,?_⟩
   rw [show l.off + i * l.sz + q + f.offset=l.off + i * l.sz + (q + f.offset) by omega]
   exact .ptr _ _ _ l hl
  ·rename_i cs q e
   simp only [List.cons.injEq,and_true] at e
   rw [e] at h1;simp at hz;subst hz
   generalize hv:a.eval x=v at h1
   cases h1
   rename_i b q0 vs hc hb hl hvs hso
   refine ⟨_,key _ _ hv,?_⟩
   rw [show q0 + q + f.offset=q0 + (q + f.offset) by omega]
   exact .fptr _ _ _ vs cs hc hvs hso hb hl
  ·simp at hz
 ·simp at hf
theorem xHS (hF:FrameOK C F a) {t:TypeId} {x i:Operand} (ho:o.op=.index t x i) (ht:P.underlying t=some .string) {vx vi:VX} (hx:cx x=some vx) (hi:cx i=some vi) {z:AV}
  (hz:pk .indexStr [vx.eval F,vi.eval F]=some z):Does P C a o z:=by
 have h1:=xAf hF hx
 have h2:=xAf hF hi
 simp only [pk] at hz
 split at hz
 ·rename_i s k n e
  simp only [List.cons.injEq,and_true] at e
  obtain ⟨e1,e2⟩:=e
  rw [e1] at h1;rw [e2] at h2
  have h1:=h1.str_inv;have h2:=h2.int_inv
  split at hz
  ·rename_i hn
   simp only [Option.map_eq_some_iff] at hz
   obtain ⟨b,hb,rfl⟩:=hz
   exact ⟨_,by simp [execOp,ho,h1,h2,Instr.index,asIntOf,xAb ht,hn,hb],.int _ _⟩
  ·simp at hz
 ·simp at hz
theorem xCG {t e:TypeId} {sz:Nat} (ht:P.underlying t=some (.slice e)) (hs:sizeT P e=some sz) (b q len cap:Nat) (k:IntKind) (i:Int) (h0:0<=i) (h1:i < len) (w:World) :
  (Instr.indexAt t (.slice (some ⟨b,q,none⟩) len cap) (.int k i)).run P w=.ok (.pointer (some ⟨b,q + i.toNat * sz,none⟩)) w:=by
 have h1':i < (len:Int):=h1
 simp [Instr.indexAt,asIntOf,xAb ht,h0,h1',xAp hs,xBv]
theorem xG0 (hF:FrameOK C F a) {t e:TypeId} {sz:Nat} {x i:Operand} (ho:o.op=.indexAddr t x i) (ht:P.underlying t=some (.slice e)) (hs:sizeT P e=some sz) {vx vi:VX} (hx:cx x=some vx) (hi:cx i=some vi) {z:AV}
  (hz:pk (.indexAddr sz) [vx.eval F,vi.eval F]=some z):Does P C a o z:=by
 have h1:=xAf hF hx
 have h2:=xAf hF hi
 simp only [pk] at hz
 split at hz
 ·rename_i sz' es k n e'
  simp only [List.cons.injEq,and_true] at e'
  obtain ⟨e1,e2⟩:=e'
  rw [e1] at h1;rw [e2] at h2
  have h2:=h2.int_inv
  split at hz
  ·rename_i hc
   obtain ⟨rfl,h0⟩:=hc
   simp only [Option.map_eq_some_iff] at hz
   obtain ⟨el,hel,rfl⟩:=hz
   obtain ⟨hlt,_⟩:=xgS hel
   generalize hv:a.eval x=v at h1
   cases h1 with
   | fsl b q cap _ vs _ hc hes hvs hso hb hl hcap =>
    refine ⟨_,?_,.fptr b (q + n.toNat * sz) 0 ((vs.drop (n.toNat * sz)).take sz) el ((hc.drop _).take _) ?_ (fun x hx=>hso x (List.mem_flatten.2 ⟨el,xmG hel,hx⟩)) hb hl⟩
    ·simp [execOp,ho,hv,h2,xCG ht hs b q es.length cap k n h0 (by omega)]
    ·have:=(hvs.drop (n.toNat * sz)).take sz
     rwa [xHR hes hel] at this
   | fnil a cap _=>simp at hlt
  ·simp at hz
 ·rename_i sz' o' off len k n e'
  simp only [List.cons.injEq,and_true] at e'
  obtain ⟨e1,e2⟩:=e'
  rw [e1] at h1;rw [e2] at h2
  have h2:=h2.int_inv
  split at hz
  ·rename_i hc
   obtain ⟨rfl,h0,h3⟩:=hc
   simp only [xoI] at hz;subst hz
   generalize hv:a.eval x=v at h1
   cases h1 with
   | sl _ _ _ _ cap l c ty f hl hz hh hm hcap =>
    refine ⟨.pointer (some ⟨l.blk,l.off + off * sz + n.toNat * sz,none⟩),?_,?_⟩
    ·simp [execOp,ho,hv,h2,xCG ht hs _ _ len cap k n h0 h3]
    ·have:=VR.ptr (C:=C) o' (off + n.toNat) 0 l hl
     rwa [hz,show l.off + (off + n.toNat) * sz + 0=l.off + off * sz + n.toNat * sz by rw [Nat.add_mul];omega] at this
   | slnil a _ _ _=>simp at h3;omega
  ·simp at hz
 ·rename_i sz' o' j off len k n e'
  simp only [List.cons.injEq,and_true] at e'
  obtain ⟨e1,e2⟩:=e'
  rw [e1] at h1;rw [e2] at h2
  have h2:=h2.int_inv
  split at hz
  ·rename_i hc
   obtain ⟨rfl,h0,h3⟩:=hc
   simp only [xoI] at hz;subst hz
   generalize hv:a.eval x=v at h1
   cases h1 with
   | asl _ _ _ _ _ cap l hl hcap =>
    refine ⟨.pointer (some ⟨l.blk,l.off + j * l.sz + off + n.toNat * sz,none⟩),?_,?_⟩
    ·simp [execOp,ho,hv,h2,xCG ht hs _ _ len cap k n h0 h3]
    ·have:=VR.ptr (C:=C) o' j (off + n.toNat * sz) l hl
     rwa [show l.off + j * l.sz + (off + n.toNat * sz)=l.off + j * l.sz + off + n.toNat * sz by omega] at this
   | aslnil a _ _ _ _ _=>simp at h3;omega
  ·simp at hz
 ·simp at hz
theorem xEC (hF:FrameOK C F a) {t e:TypeId} {sz len:Nat} {x i:Operand} (ho:o.op=.indexAddr t x i) (ht:P.underlying t=some (.array len e)) (hs:sizeT P e=some sz) {vx vi:VX} (hx:cx x=some vx) (hi:cx i=some vi) {z:AV}
  (hz:pk (.indexAddrArr sz len) [vx.eval F,vi.eval F]=some z):Does P C a o z:=by
 have h1:=xAf hF hx
 have h2:=xAf hF hi
 have key:∀b q k n,a.eval x=.pointer (some ⟨b,q,none⟩)->a.eval i=.int k n->0<=n->n < len->(execOp a.eval o).run P C.w=.ok (.value (.pointer (some ⟨b,q + n.toNat * sz,none⟩))) C.w:=by
  intro b q k n hq hn h0 h3
  have h3':n < (len:Int):=h3
  simp [execOp,ho,hq,hn,Instr.indexAt,asIntOf,xAb ht,Instr.sureAddr,h0,h3',xAp hs,xBv]
 simp only [pk] at hz
 split at hz
 ·rename_i p j off k n e'
  simp only [List.cons.injEq,and_true] at e'
  obtain ⟨e1,e2⟩:=e'
  rw [e1] at h1;rw [e2] at h2
  have h2:=h2.int_inv
  split at hz
  ·rename_i hc
   simp only [xoI] at hz;subst hz
   generalize hv:a.eval x=v at h1
   cases h1
   rename_i l hl
   refine ⟨_,key _ _ _ _ hv h2 hc.1 hc.2,?_⟩
   rw [show l.off + j * l.sz + off + n.toNat * sz=l.off + j * l.sz + (off + n.toNat * sz) by omega]
   exact .ptr _ _ _ l hl
  ·simp at hz
 ·rename_i cs off k n e'
  simp only [List.cons.injEq,and_true] at e'
  obtain ⟨e1,e2⟩:=e'
  rw [e1] at h1;rw [e2] at h2
  have h2:=h2.int_inv
  split at hz
  ·rename_i hc
   simp only [xoI] at hz;subst hz
   generalize hv:a.eval x=v at h1
   cases h1
   rename_i b q0 vs hc' hb hl hvs hso
   refine ⟨_,key _ _ _ _ hv h2 hc.1 hc.2,?_⟩
   rw [show q0 + off + n.toNat * sz=q0 + (off + n.toNat * sz) by omega]
   exact .fptr _ _ _ vs cs hc' hvs hso hb hl
  ·simp at hz
 ·simp at hz
end
section
variable {P:Program} {C:Ctx} {F:AFrame} {a:Act} {o:Oper}
theorem xQm {C:Ctx} {v w:Value} {k k':IntKind} {m n:Int} (h:VR C v (.int k m)) (h':VR C w (.int k' n)):v=.int k m/\w=.int k' n:=⟨h.int_inv,h'.int_inv⟩
theorem xAA (c:Call) (b:Builtin) (hc:c.callee=.builtin b) (ho:o.op=.call c) (w:World) {v:Value} {w':World}
  (h:(builtin b c.argTypes o.type (c.args.map fun | .const _=>true | _=>false) (c.args.map a.eval)).run P w=.ok (.value v) w'):(execOp a.eval o).run P w=.ok (.value v) w':=by
 simp only [execOp,ho,resolve,hc,Sem.run_bind,Sem.run_pure,Result.andThen_ok,invoke]
 exact h
theorem xDj {c:Call} {x:Operand} (h:c.args.toList=[x]):c.args.map a.eval=#[a.eval x]:=by
 have:c.args=#[x]:=by apply Array.ext';simpa using h
 simp [this]
theorem xLx {c:Call} {x y:Operand} (h:c.args.toList=[x,y]):c.args.map a.eval=#[a.eval x,a.eval y]:=by
 have:c.args=#[x,y]:=by apply Array.ext';simpa using h
 simp [this]
theorem xKw (hF:FrameOK C F a) {c:Call} {t:TypeId} {x:Operand} (ho:o.op=.call c) (hc:c.callee=.builtin .len) (hx':c.args.toList=[x]) (ht':c.argTypes.toList=[t])
  (ht:P.underlying t=some .string) {vx:VX} (hx:cx x=some vx) {z:AV} (hz:pk .lenStr [vx.eval F]=some z):Does P C a o z:=by
 have h1:=xAf hF hx
 have hat:c.argTypes=#[t]:=by apply Array.ext';simpa using ht'
 simp only [pk] at hz
 split at hz
 ·rename_i s e
  simp only [List.cons.injEq,and_true] at e
  rw [e] at h1
  simp only [xoI] at hz;subst hz
  refine ⟨_,xAA c .len hc ho C.w ?_,.int _ _⟩
  rw [xDj hx',hat,h1.str_inv]
  simp [builtin,Builtin.len_,xAb ht,goInt]
 ·simp at hz
theorem xNV (hF:FrameOK C F a) {c:Call} {t e:TypeId} {x:Operand} (ho:o.op=.call c) (hc:c.callee=.builtin .len) (hx':c.args.toList=[x]) (ht':c.argTypes.toList=[t])
  (ht:P.underlying t=some (.slice e)) {vx:VX} (hx:cx x=some vx) {z:AV} (hz:pk .lenS [vx.eval F]=some z):Does P C a o z:=by
 have h1:=xAf hF hx
 have hat:c.argTypes=#[t]:=by apply Array.ext';simpa using ht'
 simp only [pk] at hz
 split at hz
 ·rename_i n hn
  simp only [xoI] at hz;subst hz
  refine ⟨_,xAA c .len hc ho C.w ?_,.int _ _⟩
  rw [xDj hx',hat]
  generalize hX:vx.eval F=X at *
  cases X <;> simp only [lenV,xoI,reduceCtorEq] at hn
  all_goals
   generalize hv:a.eval x=v at h1
   subst hn
   cases h1 <;> simp [builtin,Builtin.len_,xAb ht,goInt]
 ·simp at hz
theorem xKx {c:Call} {t e:TypeId} {n:Nat} {x:Operand} (ho:o.op=.call c) (hc:c.callee=.builtin .len) (hx':c.args.toList=[x]) (ht':c.argTypes.toList=[t])
  (ht:P.underlying t=some (.array n e)) {y z:AV} (hz:pk (.lenArr n) [y]=some z):Does P C a o z:=by
 have hat:c.argTypes=#[t]:=by apply Array.ext';simpa using ht'
 simp [pk] at hz;subst hz
 refine ⟨.int .i64 n,?_,.int _ _⟩
 refine xAA c .len hc ho C.w ?_
 rw [xDj hx',hat]
 simp [builtin,Builtin.len_,xAb ht,goInt]
theorem xFS {C:Ctx} {f:Int->Int->Int} {f2:Value->Value->Sem Value} (hf:∀k x y w,(f2 (.int k x) (.int k y)).run P w=.ok (.int k (f x y)) w) (w:World):∀{us:List Value} {ys:List AV},VRs C us ys->∀{k:IntKind} {x:Int} {z:AV},foldI f k x ys=some z->∃ m,z=.int k m/\(us.foldlM f2 (.int k x)).run P w=.ok (.int k m) w
 | _,_,.nil,k,x,z,h=>by simp only [foldI,xoI] at h;subst h;exact ⟨x,rfl,by simp⟩
 | _,_,.cons u y us ys hu hus,k,x,z,h=>by
  cases y <;> simp only [foldI,reduceCtorEq] at h
  rename_i k' n
  split at h
  ·rename_i hk;subst hk
   obtain ⟨m,h1,h2⟩:=xFS hf w hus h
   have:=hu.int_inv;subst this
   exact ⟨m,h1,by simp only [List.foldlM_cons,Sem.run_bind,hf,Result.andThen_ok,h2]⟩
  ·cases h
theorem xNW (hF:FrameOK C F a) {c:Call} (ho:o.op=.call c) (hc:c.callee=.builtin .min)
  {xs:List VX} (hx:mapOpt cx c.args.toList=some xs) {z:AV} (hz:pk .minI (xs.map (VX.eval F))=some z):Does P C a o z:=by
 have hv:=xAI hF hx
 generalize xs.map (VX.eval F)=ys at hv hz
 simp only [pk] at hz
 split at hz
 ·rename_i k x ys
  have e1:c.args.map a.eval=(c.args.toList.map a.eval).toArray:=by apply Array.ext';simp
  generalize c.args.toList.map a.eval=vs at hv e1
  cases hv
  rename_i u us hu hus
  have:=hu.int_inv;subst this
  obtain ⟨m,rfl,h2⟩:=xFS (P:=P) (f2:=Builtin.min2) (fun k x y w=>by simp [Builtin.min2]) C.w hus hz
  refine ⟨_,?_,.int _ _⟩
  refine xAA c .min hc ho C.w ?_
  rw [e1]
  simp only [builtin,Builtin.min_,Sem.run_bind,h2,Result.andThen_ok,Sem.run_pure]
 ·cases hz
theorem xNX (hF:FrameOK C F a) {c:Call} (ho:o.op=.call c) (hc:c.callee=.builtin .max)
  {xs:List VX} (hx:mapOpt cx c.args.toList=some xs) {z:AV} (hz:pk .maxI (xs.map (VX.eval F))=some z):Does P C a o z:=by
 have hv:=xAI hF hx
 generalize xs.map (VX.eval F)=ys at hv hz
 simp only [pk] at hz
 split at hz
 ·rename_i k x ys
  have e1:c.args.map a.eval=(c.args.toList.map a.eval).toArray:=by apply Array.ext';simp
  generalize c.args.toList.map a.eval=vs at hv e1
  cases hv
  rename_i u us hu hus
  have:=hu.int_inv;subst this
  obtain ⟨m,rfl,h2⟩:=xFS (P:=P) (f2:=Builtin.max2) (fun k x y w=>by simp [Builtin.max2]) C.w hus hz
  refine ⟨_,?_,.int _ _⟩
  refine xAA c .max hc ho C.w ?_
  rw [e1]
  simp only [builtin,Builtin.max_,Sem.run_bind,h2,Result.andThen_ok,Sem.run_pure]
 ·cases hz
theorem xHT (hF:FrameOK C F a) {x:Operand} (ho:o.op=.nilCheck x) {vx:VX} (hx:cx x=some vx) {z:AV} (hz:pk .nilCheck [vx.eval F]=some z):Does P C a o z:=by
  have h1:=xAf hF hx
  simp only [pk] at hz
  split at hz
  all_goals first
    | (rename_i e
       simp only [List.cons.injEq,and_true] at e
       have h1':=h1
       rw [e] at h1;simp only [xoI] at hz;subst hz
       rw [e] at h1'
       generalize hv:a.eval x=v at h1 h1'
       refine ⟨v,?_,h1'⟩
       cases h1 <;> simp [execOp,ho,hv])
    | simp at hz
theorem xKy (hF:FrameOK C F a) {x:Operand} {xt t:TypeId} {ok:Bool} {zz:AV} {d:TypeDesc} (ho:o.op=.typeAssert x xt t ok) (hd:P.underlying t=some d) (hi:∀ms,d ≠ .interface ms) {vx:VX} (hx:cx x=some vx) {zv:Value} (hzv:zeroT P t=some zv) (hzz:ofValue zv=some zz) {z:AV}
  (hz:pk (.assert t ok zz) [vx.eval F]=some z):Does P C a o z:=by
 have h1:=xAf hF hx
 have hzr:=xD0 C hzz
 simp only [pk] at hz
 split at hz
 ·rename_i t' v e
  simp only [List.cons.injEq,and_true] at e
  rw [e] at h1
  split at hz
  ·rename_i hk;subst hk
   simp only [xoI] at hz;subst hz
   generalize hv:a.eval x=q at h1
   cases h1
   rename_i u h1
   have hrun:(Instr.typeAssert (.iface t u) xt t ok).run P C.w=.ok (if ok then .tuple #[u,.bool true] else u) C.w:=by
    simp only [Instr.typeAssert,Sem.run_bind,xAb hd,Result.andThen_ok]
    cases d <;> first | exact absurd rfl (hi _) | simp
   refine ⟨if ok then .tuple #[u,.bool true] else u,by simp only [execOp,ho,hv,Sem.run_bind,hrun,Result.andThen_ok,Sem.run_pure],?_⟩
   cases ok
   ·exact h1
   ·exact .tuple [u,.bool true] _ (.cons _ _ _ _ h1 (.one (.bool true)))
  ·rename_i hk
   split at hz
   ·rename_i hok
    simp only [xoI] at hz;subst hz
    generalize hv:a.eval x=q at h1
    cases h1
    rename_i u h1
    have hk':¬ t'=t:=fun e=>hk e.symm
    have hrun:(Instr.typeAssert (.iface t' u) xt t ok).run P C.w=.ok (.tuple #[zv,.bool false]) C.w:=by
     simp only [Instr.typeAssert,Sem.run_bind,xAb hd,Result.andThen_ok]
     cases d <;> first | exact absurd rfl (hi _) | simp [hok,hk',xAJ hzv]
    exact ⟨.tuple #[zv,.bool false],by simp only [execOp,ho,hv,Sem.run_bind,hrun,Result.andThen_ok,Sem.run_pure],.tuple [zv,.bool false] _ (.cons _ _ _ _ hzr (.one (.bool false)))⟩
   ·simp at hz
 ·rename_i e
  simp only [List.cons.injEq,and_true] at e
  rw [e] at h1
  split at hz
  ·rename_i hok
   simp only [xoI] at hz;subst hz
   generalize hv:a.eval x=q at h1
   cases h1
   have hrun:(Instr.typeAssert .nilIface xt t ok).run P C.w=.ok (.tuple #[zv,.bool false]) C.w:=by
    simp only [Instr.typeAssert,Sem.run_bind,xAb hd,Result.andThen_ok]
    cases d <;> first | exact absurd rfl (hi _) | simp [hok,xAJ hzv]
   exact ⟨.tuple #[zv,.bool false],by simp only [execOp,ho,hv,Sem.run_bind,hrun,Result.andThen_ok,Sem.run_pure],.tuple [zv,.bool false] _ (.cons _ _ _ _ hzr (.one (.bool false)))⟩
  ·simp at hz
 ·simp at hz
theorem xAy (k:IntKind) (i:Int) (y:Nat) (code:BoundsCode) (h:0<=i/\i<=y) (w:World):(Instr.sliceBound (.int k i) y code).run P w=.ok i.toNat w:=by
 simp [Instr.sliceBound,asIntOf,h.1,h.2]
theorem VRs.inv1 {C:Ctx} {vs:List Value} {k:IntKind} {n:Int} (h:VRs C vs [.int k n]):vs=[.int k n]:=by
 cases h with | cons v x vs xs h hs=>cases hs;rw [h.int_inv]
theorem VRs.inv2 {C:Ctx} {vs:List Value} {k k':IntKind} {n n':Int} (h:VRs C vs [.int k n,.int k' n']):vs=[.int k n,.int k' n']:=by
 cases h with | cons v x vs xs h hs=>rw [hs.inv1,h.int_inv]
theorem VRs.inv3 {C:Ctx} {vs:List Value} {k k' k'':IntKind} {n n' n'':Int} (h:VRs C vs [.int k n,.int k' n',.int k'' n'']):vs=[.int k n,.int k' n',.int k'' n'']:=by
 cases h with | cons v x vs xs h hs=>rw [hs.inv2,h.int_inv]
theorem xQn {n m:Nat} {xs:List AV} {r:Nat × Nat × Nat} (hr:bnds false false false n m xs=some r):xs=[]/\r=(0,n,m):=by
 unfold bnds at hr;split at hr <;> simp_all
theorem xLy {b:Bool} {n m:Nat} {xs:List AV} {r:Nat × Nat × Nat} (hr:bnds b false true n m xs=some r):False:=by
 unfold bnds at hr;split at hr <;> simp_all
theorem xQo {n m:Nat} {xs:List AV} {r:Nat × Nat × Nat} (hr:bnds false true false n m xs=some r):∃ k h,xs=[.int k h]/\0<=h/\h<=m/\r=(0,h.toNat,m):=by
 unfold bnds at hr;split at hr <;> simp_all
 exact ⟨_,_,⟨rfl,rfl⟩,hr.1.1,hr.1.2,hr.2.symm⟩
theorem xQp {n m:Nat} {xs:List AV} {r:Nat × Nat × Nat} (hr:bnds true false false n m xs=some r):∃ k l,xs=[.int k l]/\0<=l/\l<=n/\r=(l.toNat,n,m):=by
 unfold bnds at hr;split at hr <;> simp_all
 exact ⟨_,_,⟨rfl,rfl⟩,hr.1.1,hr.1.2,hr.2.symm⟩
theorem xQq {n m:Nat} {xs:List AV} {r:Nat × Nat × Nat} (hr:bnds true true false n m xs=some r):∃ k l j h,xs=[.int k l,.int j h]/\0<=l/\l<=h/\h<=m/\r=(l.toNat,h.toNat,m):=by
 unfold bnds at hr;split at hr <;> simp_all
 exact ⟨_,_,_,_,⟨⟨rfl,rfl⟩,rfl,rfl⟩,hr.1.1,hr.1.2.1,hr.1.2.2,hr.2.symm⟩
theorem xQr {n m:Nat} {xs:List AV} {r:Nat × Nat × Nat} (hr:bnds false true true n m xs=some r):∃ j h i x,xs=[.int j h,.int i x]/\0<=h/\h<=x/\x<=m/\r=(0,h.toNat,x.toNat):=by
 unfold bnds at hr;split at hr <;> simp_all
 exact ⟨_,_,_,_,⟨⟨rfl,rfl⟩,rfl,rfl⟩,hr.1.1,hr.1.2.1,hr.1.2.2,hr.2.symm⟩
theorem xQs {n m:Nat} {xs:List AV} {r:Nat × Nat × Nat} (hr:bnds true true true n m xs=some r):∃ k l j h i x,xs=[.int k l,.int j h,.int i x]/\0<=l/\l<=h/\h<=x/\x<=m/\r=(l.toNat,h.toNat,x.toNat):=by
 unfold bnds at hr;split at hr <;> simp_all
 exact ⟨_,_,_,_,_,_,⟨⟨rfl,rfl⟩,⟨rfl,rfl⟩,rfl,rfl⟩,hr.1.1,hr.1.2.1,hr.1.2.2.1,hr.1.2.2.2,hr.2.symm⟩
theorem xBn {isS:Bool} {n m cap:Nat} (hnm:n<=m) (hm:m<=cap) {lo hi mx:Option Operand} {bs:List VX} (hb:mapOpt cx (lo.toList ++ hi.toList ++ mx.toList)=some bs) (hF:FrameOK C F a)
  {r:Nat × Nat × Nat} (hr:bnds lo.isSome hi.isSome mx.isSome n m (bs.map (VX.eval F))=some r) (w:World) :
  (Instr.sliceBounds isS n cap (lo.map a.eval) (hi.map a.eval) (mx.map a.eval)).run P w=.ok (r.1,r.2.1,if mx.isSome then r.2.2 else cap) w/\r.1<=r.2.1/\r.2.1<=m/\r.2.1<=r.2.2/\r.2.2<=m:=by
 have hv:=xAI hF hb
 generalize bs.map (VX.eval F)=xs at hr hv
 cases lo <;> cases hi <;> cases mx <;> simp only [Option.isSome_none,Option.isSome_some] at hr <;> simp only [Option.toList,List.nil_append,List.append_nil,List.map_nil,List.map_cons,List.cons_append] at hv
 ·obtain ⟨rfl,rfl⟩:=xQn hr
  simp [Instr.sliceBounds];omega
 ·exact (xLy hr).elim
 ·obtain ⟨k,h,rfl,h0,h1,rfl⟩:=xQo hr
  have e:=hv.inv1;simp only [List.cons.injEq,and_true] at e
  simp [Instr.sliceBounds,e,xAy _ _ cap _ ⟨h0,by omega⟩];omega
 ·obtain ⟨j,h,i,x,rfl,h0,h1,h2,rfl⟩:=xQr hr
  have e:=hv.inv2;simp only [List.cons.injEq,and_true] at e
  have e1:=fun code w=>xAy (P:=P) i x cap code ⟨by omega,by omega⟩ w
  have e2:=fun code w=>xAy (P:=P) j h x.toNat code ⟨h0,by omega⟩ w
  simp [Instr.sliceBounds,e.1,e.2,e1,e2];omega
 ·obtain ⟨k,l,rfl,h0,h1,rfl⟩:=xQp hr
  have e:=hv.inv1;simp only [List.cons.injEq,and_true] at e
  simp [Instr.sliceBounds,e,xAy _ _ n _ ⟨h0,h1⟩];omega
 ·exact (xLy hr).elim
 ·obtain ⟨k,l,j,h,rfl,h0,h1,h2,rfl⟩:=xQq hr
  have e:=hv.inv2;simp only [List.cons.injEq,and_true] at e
  have e1:=fun code w=>xAy (P:=P) j h cap code ⟨by omega,by omega⟩ w
  have e2:=fun code w=>xAy (P:=P) k l h.toNat code ⟨h0,by omega⟩ w
  simp [Instr.sliceBounds,e.1,e.2,e1,e2];omega
 ·obtain ⟨k,l,j,h,i,x,rfl,h0,h1,h2,h3,rfl⟩:=xQs hr
  have e:=hv.inv3;simp only [List.cons.injEq,and_true] at e
  have e1:=fun code w=>xAy (P:=P) i x cap code ⟨by omega,by omega⟩ w
  have e2:=fun code w=>xAy (P:=P) j h x.toNat code ⟨by omega,by omega⟩ w
  have e3:=fun code w=>xAy (P:=P) k l h.toNat code ⟨h0,by omega⟩ w
  simp [Instr.sliceBounds,e.1,e.2.1,e.2.2,e1,e2,e3];omega
theorem xBj {t e:TypeId} {sz:Nat} {isS:Bool} (ht:P.underlying t=some (.slice e)) (hs:sizeT P e=some sz) {ad:Option Addr} {n cap:Nat} {lo hi mx:Option Operand} {l h m:Nat} {w:World}
  (hb:(Instr.sliceBounds true n cap (lo.map a.eval) (hi.map a.eval) (mx.map a.eval)).run P w=.ok (l,h,m) w) :
  (Instr.sliceAt t (.slice ad n cap) (lo.map a.eval) (hi.map a.eval) (mx.map a.eval)).run P w=.ok (.slice (if m=l then ad else ad.map (·.add (l * sz))) (h - l) (m - l)) w:=by
 simp [Instr.sliceAt,Instr.slice,xAb ht,hb,xAp hs]
theorem xMC (hF:FrameOK C F a) {t e:TypeId} {sz:Nat} {x:Operand} {lo hi mx:Option Operand} (ho:o.op=.slice t x lo hi mx) (ht:P.underlying t=some (.slice e)) (hs:sizeT P e=some sz)
  {vx:VX} (hx:cx x=some vx) {bs:List VX} (hb:mapOpt cx (lo.toList ++ hi.toList ++ mx.toList)=some bs) {z:AV} (hz:pk (.slice sz lo.isSome hi.isSome mx.isSome) (vx.eval F :: bs.map (VX.eval F))=some z):Does P C a o z:=by
 have h1:=xAf hF hx
 simp only [pk] at hz
 have fin:∀v y,(Instr.sliceAt t (a.eval x) (lo.map a.eval) (hi.map a.eval) (mx.map a.eval)).run P C.w=.ok v C.w->VR C v y->Does P C a o y:=by
  intro v y hv hy
  exact ⟨v,by simp [execOp,ho,hv],hy⟩
 generalize hv:a.eval x=v at h1 fin
 split at hz
 ·rename_i xs e'
  simp only [List.cons.injEq] at e'
  rw [e'.1] at h1
  rw [<- e'.2,Option.map_eq_some_iff] at hz
  obtain ⟨r,hr,rfl⟩:=hz
  cases h1
  obtain ⟨hrun,hb1,hb2,hb3,hb4⟩:=xBn (P:=P) (isS:=true) (Nat.le_refl 0) (Nat.le_refl 0) hb hF hr C.w
  refine fin _ _ (xBj (isS:=true) ht hs hrun) ?_
  have q1:r.1=0:=by omega
  have q2:r.2.1=0:=by omega
  have q3:r.2.2=0:=by omega
  simp [q1,q2,q3]
  exact .nilsl _
 ·rename_i sz' es xs e'
  simp only [List.cons.injEq] at e'
  rw [e'.1] at h1
  split at hz
  ·rename_i hsz;subst hsz
   rw [<- e'.2,xoB] at hz
   obtain ⟨r,hr,hz⟩:=hz
   cases h1 with
   | fsl b q cap _ vs _ hc hes hvs hso hbd hl hcap =>
    obtain ⟨hrun,hb1,hb2,hb3,hb4⟩:=xBn (P:=P) (isS:=true) (Nat.le_refl _) hcap hb hF hr C.w
    refine fin _ _ (xBj (isS:=true) ht hs hrun) ?_
    split at hz
    ·rename_i hm
     simp only [xoI] at hz;subst hz
     have q1:r.1=0:=by omega
     have q2:r.2.1=0:=by omega
     simp [hm.1,hm.2,q1,q2]
     exact .nilsl _
    ·simp only [xoI] at hz;subst hz
     by_cases hlh:r.1=r.2.1
     ·rw [hlh,Nat.sub_self];simp;exact .fnil _ _ _
     ·have hne:¬ ((if mx.isSome then r.2.2 else cap)=r.1):=by split <;> omega
      rw [if_neg hne]
      have hlen:((es.drop r.1).take (r.2.1 - r.1)).length=r.2.1 - r.1:=by simp;omega
      have:=VR.fsl (C:=C) b (q + r.1 * sz) ((if mx.isSome then r.2.2 else cap) - r.1) sz ((vs.drop (r.1 * sz)).take ((r.2.1 - r.1) * sz)) ((es.drop r.1).take (r.2.1 - r.1)) ((hc.drop _).take _)
       (fun x hx=>hes x (List.mem_of_mem_drop (List.mem_of_mem_take hx))) (by
        rw [xBi _ (fun x hx=>hes x (List.mem_of_mem_drop hx)),xBE _ hes]
        exact (hvs.drop _).take _) (fun x hx=>by
         obtain ⟨m,hm,hxm⟩:=List.mem_flatten.1 hx
         exact hso x (List.mem_flatten.2 ⟨m,List.mem_of_mem_drop (List.mem_of_mem_take hm),hxm⟩)) hbd hl (by rw [hlen];split <;> omega)
      rw [hlen] at this
      simpa [xBv] using this
   | fnil ad cap _ =>
    obtain ⟨hrun,hb1,hb2,hb3,hb4⟩:=xBn (P:=P) (isS:=true) (Nat.le_refl 0) (Nat.zero_le cap) hb hF hr C.w
    refine fin _ _ (xBj (isS:=true) ht hs hrun) ?_
    have q1:r.1=0:=by omega
    have q2:r.2.1=0:=by omega
    split at hz
    ·rename_i hm
     simp only [xoI] at hz;subst hz
     simp [hm.1,hm.2,q1,q2]
     exact .nilsl _
    ·simp only [xoI] at hz;subst hz
     simp [q1,q2]
     exact .fnil _ _ _
  ·cases hz
 ·rename_i sz' p off len xs e'
  simp only [List.cons.injEq] at e'
  rw [e'.1] at h1
  split at hz
  ·rename_i hsz;subst hsz
   rw [<- e'.2,xoB] at hz
   obtain ⟨r,hr,hz⟩:=hz
   cases h1 with
   | sl _ _ _ _ cap l c ty f hl hlz hh hm hcap =>
    obtain ⟨hrun,hb1,hb2,hb3,hb4⟩:=xBn (P:=P) (isS:=true) (Nat.le_refl _) hcap hb hF hr C.w
    refine fin _ _ (xBj (isS:=true) ht hs hrun) ?_
    split at hz
    ·rename_i hm
     simp only [xoI] at hz;subst hz
     have q1:r.1=0:=by omega
     have q2:r.2.1=0:=by omega
     simp [hm.1,hm.2,q1,q2]
     exact .nilsl _
    ·simp only [xoI] at hz;subst hz
     generalize hM:(if mx.isSome then r.2.2 else cap)=M
     have hM1:r.2.1<=M:=by rw [<- hM];split <;> omega
     have hM2:M<=cap:=by rw [<- hM];split <;> omega
     by_cases hne:M=r.1
     ·rw [if_pos hne,hne]
      have:r.2.1 - r.1=0:=by omega
      rw [this,Nat.sub_self]
      exact .slnil _ _ _ _
     ·rw [if_neg hne]
      have hmul:(off + cap) * sz=(off + r.1 + (M - r.1)) * sz + (cap - M) * sz:=by rw [<- Nat.add_mul];congr 1;omega
      have:=VR.sl (C:=C) sz p (off + r.1) (r.2.1 - r.1) (M - r.1) l c ty f hl hlz hh (by omega) (by omega)
      rw [show l.off + (off + r.1) * sz=l.off + off * sz + r.1 * sz by rw [Nat.add_mul];omega] at this
      simpa [xBv] using this
   | slnil ad _ _ _ =>
    obtain ⟨hrun,hb1,hb2,hb3,hb4⟩:=xBn (P:=P) (isS:=true) (Nat.le_refl 0) (Nat.le_refl 0) hb hF hr C.w
    refine fin _ _ (xBj (isS:=true) ht hs hrun) ?_
    have q1:r.1=0:=by omega
    have q2:r.2.1=0:=by omega
    have q3:r.2.2=0:=by omega
    have q4:(if mx.isSome=true then r.2.2 else 0)=0:=by split <;> omega
    rw [q4,q1,q2]
    split at hz
    ·simp only [xoI] at hz;subst hz;simp;exact .nilsl _
    ·simp only [xoI] at hz;subst hz;rw [q1,q2];simp;exact .slnil _ _ _ _
  ·cases hz
 ·cases hz
theorem xHU (hF:FrameOK C F a) {t:TypeId} {x:Operand} {lo hi mx:Option Operand} (ho:o.op=.slice t x lo hi mx) (ht:P.underlying t=some .string) (hmx:mx.isSome=false)
  {vx:VX} (hx:cx x=some vx) {bs:List VX} (hb:mapOpt cx (lo.toList ++ hi.toList ++ mx.toList)=some bs) {z:AV} (hz:pk (.sliceStr lo.isSome hi.isSome) (vx.eval F :: bs.map (VX.eval F))=some z):Does P C a o z:=by
 have h1:=xAf hF hx
 simp only [pk] at hz
 cases mx with
 | some m=>simp at hmx
 | none =>
 split at hz
 ·rename_i s xs e'
  simp only [List.cons.injEq] at e'
  rw [e'.1] at h1
  rw [<- e'.2,Option.map_eq_some_iff] at hz
  obtain ⟨r,hr,rfl⟩:=hz
  have hrun:=(xBn (P:=P) (isS:=false) (mx:=none) (Nat.le_refl s.size) (Nat.le_refl s.size) hb hF hr C.w).1
  simp only [Option.map_none] at hrun
  refine ⟨_,?_,.str _⟩
  simp [execOp,ho,h1.str_inv,Instr.sliceAt,Instr.slice,xAb ht,hrun]
 ·cases hz
theorem xHV (hF:FrameOK C F a) {t e:TypeId} {sz n:Nat} {x:Operand} {lo hi mx:Option Operand} (ho:o.op=.slice t x lo hi mx) (ht:P.underlying t=some (.array n e)) (hs:sizeT P e=some sz)
  {vx:VX} (hx:cx x=some vx) {bs:List VX} (hb:mapOpt cx (lo.toList ++ hi.toList ++ mx.toList)=some bs) {z:AV} (hz:pk (.sliceArr sz n lo.isSome hi.isSome mx.isSome) (vx.eval F :: bs.map (VX.eval F))=some z):Does P C a o z:=by
 have h1:=xAf hF hx
 simp only [pk] at hz
 split at hz
 ·rename_i p i q xs e'
  simp only [List.cons.injEq] at e'
  rw [e'.1] at h1
  rw [<- e'.2,Option.map_eq_some_iff] at hz
  obtain ⟨r,hr,rfl⟩:=hz
  obtain ⟨hrun,hb1,hb2,hb3,hb4⟩:=xBn (P:=P) (isS:=false) (Nat.le_refl n) (Nat.le_refl n) hb hF hr C.w
  generalize hv:a.eval x=v at h1
  cases h1
  rename_i l hl
  generalize hM:(if mx.isSome then r.2.2 else n)=M at hrun
  have hM1:r.2.1<=M:=by rw [<- hM];split <;> omega
  refine ⟨.slice (some (if M=r.1 then ⟨l.blk,l.off + i * l.sz + q,none⟩ else ⟨l.blk,l.off + i * l.sz + q + r.1 * sz,none⟩)) (r.2.1 - r.1) (M - r.1),?_,?_⟩
  ·simp [execOp,ho,hv,Instr.sliceAt,xAb ht,Instr.sureAddr,hrun,xAp hs,xBv]
  ·by_cases hne:M=r.1
   ·have:r.2.1 - r.1=0:=by omega
    rw [this];exact .aslnil _ _ _ _ _ _
   ·rw [if_neg hne]
    have:=VR.asl (C:=C) sz p i (q + r.1 * sz) (r.2.1 - r.1) (M - r.1) l hl (by omega)
    rwa [show l.off + i * l.sz + (q + r.1 * sz)=l.off + i * l.sz + q + r.1 * sz by omega] at this
 ·cases hz
end
end Go.Proofs.YtnhfofmhkfdpgaaGreatDoor.Vm
