/- A part of the proof: Gm Gn Go Gp Gq. -/
import Derived.KernelRfl
import Derived.Test.YtnhfofmhkfdpgaaGreatDoorQ22
set_option linter.unusedVariables false
set_option linter.unusedSimpArgs false
set_option linter.constructorNameAsVariable false
namespace Go.Proofs.YtnhfofmhkfdpgaaGreatDoor.Vm
set_option maxRecDepth 100000
open Go Go.RowKit
variable {N:Nat} {g:Glob}
def Rd {α:Type} (B:Nat) (e:α->List AV) (sz:Nat) (S:St) (v:AV) (l:List α):Prop:=(v=.nilsl/\l=[]) \/ ∃ o,v=.sl sz o 0 l.length/\B<=o/\o < S.next/\S.obj o=some (.row sz (els e l))
theorem Rd.len {α:Type} {B:Nat} {e:α->List AV} {sz:Nat} {S:St} {v:AV} {l:List α} (h:Rd B e sz S v l):lenV v=some l.length:=by
 rcases h with ⟨rfl,rfl⟩ | ⟨o,rfl,_⟩ <;> rfl
theorem Rd.one {α:Type} {B:Nat} {e:α->List AV} {sz:Nat} {S:St} {v:AV} {l:List α} (h:Rd B e sz S v l):v.one=true:=by
 rcases h with ⟨rfl,rfl⟩ | ⟨o,rfl,_⟩ <;> rfl
theorem Rd.keep {α:Type} {B:Nat} {e:α->List AV} {sz:Nat} {S S':St} {v:AV} {l:List α} (h:Rd B e sz S v l) (hn:S.next<=S'.next) (hk:∀q,B<=q->q < S.next->(∃ c,v=.sl sz q 0 c)->S'.obj q=S.obj q):Rd B e sz S' v l:=by
 rcases h with h | ⟨o,rfl,h1,h2,h3⟩
 ·exact .inl h
 ·exact .inr ⟨o,rfl,h1,by omega,by rw [hk o h1 h2 ⟨_,rfl⟩];exact h3⟩
theorem xQS {B p off sz:Nat} {cells:List AV} {v:AV} {l:List Int} {x:Int} {S:St} {K:AV->St->Prop} (hp:S.obj p=some (.row sz [cells])) (hc:cells[off]?=some v) (h:Rd B intc 1 S v l) (hpB:p < B) (hB:B<=S.next) (hr:l.length + 1<=room)
  (hk:∀S',S'.next=S.next + 2->S'.obj (S.next + 1)=some (.row 1 (els intc (l ++ [x])))->S'.obj p=some (.row sz [cells.set off (.sl 1 (S.next + 1) 0 (l.length + 1))])->(∀q,q < S.next->q ≠ p->(∀c,v ≠ .sl 1 q 0 c)->S'.obj q=S.obj q)->K (.tuple []) S') :
  Cal P g 284 [.ptr p 0 off,.int .i64 x] S K:=by
 refine Cal.inF (by kernel_rfl) ?_
 have hoff:=(xgS hc).1
 have hr0:¬ room=0:=by simp [room]
 have n0:¬ p=S.next:=by omega
 have n1:¬ p=S.next + 1:=by omega
 conv=>arg 3;reduce
 simp [hp,hc]
 rcases h with ⟨rfl,rfl⟩ | ⟨o,rfl,h1,h2,h3⟩
 ·simp [hr0,n0,n1,hp,show off + 1<=cells.length by omega]
  refine hk _ (by simp) ?_ (by simp) ?_
  ·simp [show ¬ S.next + 1=p by omega,els,intc]
  ·intro q hq hqp _
   simp [hqp,show ¬ q=S.next + 1 by omega,show ¬ q=S.next by omega]
 ·have n2:¬ o=S.next:=by omega
  have n3:¬ p=o:=by omega
  simp [hr0,n0,n1,n2,n3,hp,h3,hr,show off + 1<=cells.length by omega]
  refine hk _ (by simp) ?_ (by simp) ?_
  ·simp [show ¬ S.next + 1=p by omega]
   rw [List.take_of_length_le (by simp)]
   simp [els,intc]
  ·intro q hq hqp hv
   have:¬ q=o:=fun e=>hv _ (by rw [e])
   simp [hqp,this,show ¬ q=S.next + 1 by omega,show ¬ q=S.next by omega]
theorem xOQ {B p off sz:Nat} {cells:List AV} {v:AV} {l:List (Nat × Nat)} {x:Nat × Nat} {S:St} {K:AV->St->Prop} (hp:S.obj p=some (.row sz [cells])) (hc:cells[off]?=some v) (h:Rd B stepc 2 S v l) (hpB:p < B) (hB:B<=S.next) (hr:l.length + 1<=room)
  (hk:∀S',S'.next=S.next + 3->S'.obj (S.next + 2)=some (.row 2 (els stepc (l ++ [x])))->S'.obj p=some (.row sz [cells.set off (.sl 2 (S.next + 2) 0 (l.length + 1))])->(∀q,q < S.next->q ≠ p->(∀c,v ≠ .sl 2 q 0 c)->S'.obj q=S.obj q)->K (.tuple []) S') :
  Cal P g 285 [.ptr p 0 off,.agg (stepc x)] S K:=by
 refine Cal.inF (by kernel_rfl) ?_
 have hoff:=(xgS hc).1
 have hr0:¬ room=0:=by simp [room]
 have n0:¬ p=S.next:=by omega
 have n1:¬ p=S.next + 1:=by omega
 have n2:¬ p=S.next + 1 + 1:=by omega
 conv=>arg 3;reduce
 simp [stepc]
 refine Dra.auto [] mix ?_ ?_
 ·kernel_rfl
 simp [classes,hp,hc,n0]
 rcases h with ⟨rfl,rfl⟩ | ⟨o,rfl,h1,h2,h3⟩
 ·simp [hr0,n0,n1,n2,hp,show off + 1<=cells.length by omega]
  refine hk _ (by simp) ?_ (by simp) ?_
  ·simp [show ¬ S.next + 2=p by omega,els,stepc]
  ·intro q hq hqp _
   simp [hqp,show ¬ q=S.next + 1 + 1 by omega,show ¬ q=S.next + 1 by omega,show ¬ q=S.next by omega]
 ·have n4:¬ o=S.next:=by omega
  have n5:¬ o=S.next + 1:=by omega
  have n3:¬ p=o:=by omega
  simp [hr0,n0,n1,n2,n3,n4,n5,hp,h3,hr,show off + 1<=cells.length by omega]
  refine hk _ (by simp) ?_ (by simp) ?_
  ·simp [show ¬ S.next + 2=p by omega]
   rw [List.take_of_length_le (by simp)]
   simp [els,stepc]
  ·intro q hq hqp hv
   have:¬ q=o:=fun e=>hv _ (by rw [e])
   simp [hqp,this,show ¬ q=S.next + 1 + 1 by omega,show ¬ q=S.next + 1 by omega,show ¬ q=S.next by omega]
theorem xLU {p off sz o:Nat} {cells:List AV} {l:List (Nat × Nat)} {S:St} {K:AV->St->Prop} (hp:S.obj p=some (.row sz [cells])) (hc:cells[off]?=some (.sl 2 o 0 (l.length + 1))) (hl:l.length < 2 ^ 40) (hk:K (.ptr o l.length 0) S) :
  Cal P g 279 [.ptr p 0 off] S K:=by
 refine Cal.inF (by kernel_rfl) ?_
 have e5:IntKind.i64.wrap (l.length:Int)=(l.length:Int):=xAa (by omega)
 have hix:pk (PK.indexAddr 2) [AV.sl 2 o 0 (l.length + 1),AV.int IntKind.i64 (l.length:Int)]=some (.ptr o (0 + l.length) 0):=xAd (by omega)
 conv=>arg 3;reduce
 simp
 refine Dra.auto [] mix ?_ ?_
 ·kernel_rfl
 simp [classes,hp,hc,e5,hix]
 exact hk
theorem xSQ {p off sz o:Nat} {cells:List AV} {l:List Int} {x:Int} {S:St} {K:AV->St->Prop} (hp:S.obj p=some (.row sz [cells])) (hc:cells[off]?=some (.sl 1 o 0 (l.length + 1))) (ho:S.obj o=some (.row 1 (els intc (l ++ [x])))) (hne:p ≠ o) (hl:l.length < 2 ^ 40)
  (hk:K (.int .i64 x) ((S.set p (.row sz [cells.set off (.sl 1 o 0 l.length)])).set o (.row 1 (els intc l)))):Cal P g 286 [.ptr p 0 off] S K:=by
 refine Cal.less ?_
 refine Cal.inF (by kernel_rfl) ?_
 have hoff:=(xgS hc).1
 have e5:IntKind.i64.wrap (l.length:Int)=(l.length:Int):=xAa (by omega)
 have hix:pk (PK.indexAddr 1) [AV.sl 1 o 0 (l.length + 1),AV.int IntKind.i64 (l.length:Int)]=some (.ptr o (0 + l.length) 0):=xAd (by omega)
 have hsl:pk (.slice 1 false true false) [.sl 1 o 0 (l.length + 1),.int .i64 (l.length:Int)]=some (.sl 1 o 0 l.length):=xJl (by omega)
 have hget:(els intc (l ++ [x]))[l.length]?=some [.int .i64 x]:=by simp [els,intc]
 have hget2:∀h:l.length < (els intc (l ++ [x])).length,(els intc (l ++ [x]))[l.length]=[.int .i64 x]:=fun h=>by simp [els,intc]
 conv=>arg 3;reduce
 simp
 refine Dra.auto [] mix ?_ ?_
 ·kernel_rfl
 simp [classes,hp,hc,ho,e5,hix,hget,hget2]
 refine Dra.auto [] mix ?_ ?_
 ·kernel_rfl
 simp [classes,hp,hc,ho,e5,hsl,show off + 1<=cells.length by omega]
 have hcut:=Wk.cut (S:=S.set p (.row sz [cells.set off (.sl 1 o 0 l.length)])) (o:=o) (sz:=1) (es:=els intc (l ++ [x])) l.length (by simp [Ne.symm hne,ho])
 rw [xAu,List.take_left' rfl] at hcut
 exact ⟨_,hcut,hk⟩
theorem xQT {p off sz o:Nat} {cells:List AV} {l:List (Nat × Nat)} {x:Nat × Nat} {S:St} {K:AV->St->Prop} (hp:S.obj p=some (.row sz [cells])) (hc:cells[off]?=some (.sl 2 o 0 (l.length + 1))) (ho:S.obj o=some (.row 2 (els stepc (l ++ [x])))) (hne:p ≠ o) (hpn:p < S.next) (hon:o < S.next) (hl:l.length < 2 ^ 40)
  (hk:∀S',S'.next=S.next + 2->S'.obj p=some (.row sz [cells.set off (.sl 2 o 0 l.length)])->S'.obj o=some (.row 2 (els stepc l))->(∀q,q < S.next->q ≠ p->q ≠ o->S'.obj q=S.obj q)->K (.agg (stepc x)) S'):Cal P g 281 [.ptr p 0 off] S K:=by
 refine Cal.less ?_
 refine Cal.inF (by kernel_rfl) ?_
 have hoff:=(xgS hc).1
 have e5:IntKind.i64.wrap (l.length:Int)=(l.length:Int):=xAa (by omega)
 have hix:pk (PK.indexAddr 2) [AV.sl 2 o 0 (l.length + 1),AV.int IntKind.i64 (l.length:Int)]=some (.ptr o (0 + l.length) 0):=xAd (by omega)
 have hsl:pk (.slice 2 false true false) [.sl 2 o 0 (l.length + 1),.int .i64 (l.length:Int)]=some (.sl 2 o 0 l.length):=xJl (by omega)
 have hget:(els stepc (l ++ [x]))[l.length]?=some [.int .i64 (x.1:Int),.int .i64 (x.2:Int)]:=by simp [els,stepc]
 have hget2:∀h:l.length < (els stepc (l ++ [x])).length,(els stepc (l ++ [x]))[l.length]=[.int .i64 (x.1:Int),.int .i64 (x.2:Int)]:=fun h=>by simp [els,stepc]
 have n1:¬ p=S.next:=by omega
 have n2:¬ p=S.next + 1:=by omega
 have n3:¬ o=S.next:=by omega
 have n4:¬ o=S.next + 1:=by omega
 conv=>arg 3;reduce
 simp
 refine Dra.auto [] mix ?_ ?_
 ·kernel_rfl
 simp [classes,hp,hc,ho,e5,hix,hget,hget2,n1,n2,n3,n4]
 refine Dra.auto [] mix ?_ ?_
 ·kernel_rfl
 simp [classes,hp,hc,ho,e5,hsl,n1,n2,n3,n4,show off + 1<=cells.length by omega,show ¬ S.next=p by omega,show ¬ S.next + 1=p by omega]
 refine ⟨_,Wk.cut (o:=o) (sz:=2) (es:=els stepc (l ++ [x])) l.length (by simp [Ne.symm hne,ho,n1,n2,n3,n4]),?_⟩
 rw [xAu,List.take_left' rfl]
 refine hk _ (by simp) ?_ (by simp) ?_
 ·simp [hne,n1,n2]
 ·intro q hq hqp hqo
  simp [hqp,hqo,show ¬ q=S.next by omega,show ¬ q=S.next + 1 by omega]
def partc (l:List Int):List AV:=[.fsl 1 (els intc l)]
structure Tj where
 met:List Int
 low:List Int
 inn:List Bool
 opn:List Int
 way:List (Nat × Nat)
 clock:Nat
 parts:List (List Int)
def tjCells (gv:AV) (n om ol oi:Nat) (ov wv pv:AV) (clock:Nat):List AV:=[gv,.sl 1 om 0 n,.sl 1 ol 0 n,ov,.sl 1 oi 0 n,.int .i64 (clock:Int),wv,pv]
structure TjS (B n T om ol oi:Nat) (gv:AV) (S:St) (ov wv pv:AV) (z:Tj):Prop where
 lT:T < B
 lm:om < B
 ll:ol < B
 li:oi < B
 le:B<=S.next
 ids:T ≠ om/\T ≠ ol/\T ≠ oi/\om ≠ ol/\om ≠ oi/\ol ≠ oi
 obj:S.obj T=some (.row 8 [tjCells gv n om ol oi ov wv pv z.clock])
 rm:S.obj om=some (.row 1 (els intc z.met))
 rl:S.obj ol=some (.row 1 (els intc z.low))
 ri:S.obj oi=some (.row 1 (els boolc z.inn))
 lenm:z.met.length=n
 lenl:z.low.length=n
 leni:z.inn.length=n
 ro:Rd B intc 1 S ov z.opn
 rw:Rd B stepc 2 S wv z.way
 rp:Rd B partc 1 S pv z.parts
 sep:∀q a b,ov=.sl 1 q 0 a->pv=.sl 1 q 0 b->False
theorem Rd.two {B:Nat} {S:St} {v w:AV} {α β:Type} {e:α->List AV} {e':β->List AV} {l:List α} {m:List β} (h:Rd B e 1 S v l) (h':Rd B e' 2 S w m) {q a b:Nat} (h1:v=.sl 1 q 0 a) (h2:w=.sl 2 q 0 b):False:=by
 rcases h with ⟨rfl,_⟩ | ⟨o,rfl,_,_,ho⟩
 ·cases h1
 ·cases h1
  rcases h' with ⟨rfl,_⟩ | ⟨o',rfl,_,_,ho'⟩
  ·cases h2
  ·cases h2
   rw [ho] at ho';cases ho'
def Tj.enter (z:Tj) (a:Nat):Tj:=⟨z.met.set a (z.clock + 1:Nat),z.low.set a (z.clock + 1:Nat),z.inn.set a true,z.opn ++ [(a:Int)],z.way ++ [(a,0)],z.clock + 1,z.parts⟩
theorem xFt {B n T om ol oi a:Nat} {gv ov wv pv:AV} {S:St} {z:Tj} {K:AV->St->Prop} (h:TjS B n T om ol oi gv S ov wv pv z) (ha:a < n) (hc:z.clock < 2 ^ 40) (ho:z.opn.length < 2 ^ 30) (hw:z.way.length < 2 ^ 30)
  (hk:∀S' ov wv pv,TjS B n T om ol oi gv S' ov wv pv (z.enter a)->K (.tuple []) S'):Cal P g 278 [.ptr T 0 0,.int .i64 (a:Int)] S K:=by
 obtain ⟨lT,lm,ll,li,le,⟨i1,i2,i3,i4,i5,i6⟩,obj,rm,rl,ri,lenm,lenl,leni,ro,rw',rp,sep⟩:=h
 refine Cal.inF (by kernel_rfl) ?_
 have e1:IntKind.i64.wrap ((z.clock:Int) + 1)=((z.clock + 1:Nat):Int):=by rw [xAa (by omega)];omega
 obtain ⟨xm,hxm⟩:∃ x,z.met[a]?=some x:=⟨_,xgG (by omega)⟩
 obtain ⟨xl,hxl⟩:∃ x,z.low[a]?=some x:=⟨_,xgG (by omega)⟩
 obtain ⟨xi,hxi⟩:∃ x,z.inn[a]?=some x:=⟨_,xgG (by omega)⟩
 have i1':=Ne.symm i1
 have i2':=Ne.symm i2
 have i3':=Ne.symm i3
 have i4':=Ne.symm i4
 have i5':=Ne.symm i5
 have i6':=Ne.symm i6
 conv=>arg 3;reduce
 simp [obj,tjCells,e1]
 refine Dra.auto [] mix ?_ ?_
 ·kernel_rfl
 simp [classes,i1,i2,i3,i4,i5,i6,i1',i2',i3',i4',i5',i6',rm,rl,ri,xAd ha,hxm,hxl,intc]
 have lo:∀q,q < B->∀c,ov ≠ .sl 1 q 0 c:=by
  intro q hq c e
  rcases ro with ⟨h,_⟩ | ⟨o,h,h1,_⟩
  ·rw [e] at h;cases h
  ·rw [e] at h;cases h;omega
 have lw:∀q,q < B->∀c,wv ≠ .sl 2 q 0 c:=by
  intro q hq c e
  rcases rw' with ⟨h,_⟩ | ⟨o,h,h1,_⟩
  ·rw [e] at h;cases h
  ·rw [e] at h;cases h;omega
 have hS1:∃ S1,S1=(((S.set T (AObj.row 8 [[gv,AV.sl 1 om 0 n,AV.sl 1 ol 0 n,ov,AV.sl 1 oi 0 n,AV.int IntKind.i64 (z.clock + 1:Int),wv,pv]])).set om (AObj.row 1 ((els intc z.met).set a [AV.int IntKind.i64 (z.clock + 1:Int)]))).set ol (AObj.row 1 ((els intc z.low).set a [AV.int IntKind.i64 (z.clock + 1:Int)]))):=⟨_,rfl⟩
 obtain ⟨S1,hS1⟩:=hS1
 rw [<- hS1]
 have a1:S1.obj T=some (.row 8 [[gv,AV.sl 1 om 0 n,AV.sl 1 ol 0 n,ov,AV.sl 1 oi 0 n,AV.int IntKind.i64 (z.clock + 1:Int),wv,pv]]):=by rw [hS1];simp [i1,i2]
 have a2:S1.obj om=some (.row 1 (els intc (z.met.set a (z.clock + 1:Nat)))):=by rw [hS1];simp [i4];rw [<- xAg];rfl
 have a3:S1.obj ol=some (.row 1 (els intc (z.low.set a (z.clock + 1:Nat)))):=by rw [hS1];simp;rw [<- xAg];rfl
 have a4:S1.obj oi=some (.row 1 (els boolc z.inn)):=by rw [hS1];simp [i3',i5',i6',ri]
 have a5:S1.next=S.next:=by rw [hS1];simp
 have a6:∀q,B<=q->S1.obj q=S.obj q:=by intro q hq;rw [hS1];simp [show ¬ q=T by omega,show ¬ q=om by omega,show ¬ q=ol by omega]
 refine xQS (B:=B) a1 (v:=ov) (l:=z.opn) (by simp) (ro.keep (by omega) fun q h1 _ _=>a6 q h1) lT (by omega) (by simp [room];omega) fun S2 b1 b2 b3 b4=>?_
 simp at b3
 have b5:S2.obj om=_:=(b4 om (by omega) i1' (lo om lm)).trans a2
 have b6:S2.obj ol=_:=(b4 ol (by omega) i2' (lo ol ll)).trans a3
 have b7:S2.obj oi=_:=(b4 oi (by omega) i3' (lo oi li)).trans a4
 simp [b3,b7,xAd ha,hxi,boolc]
 have c1:(S2.set oi (.row 1 ((els boolc z.inn).set a [AV.bool true]))).obj T=some (.row 8 [[gv,AV.sl 1 om 0 n,AV.sl 1 ol 0 n,AV.sl 1 (S1.next + 1) 0 (z.opn.length + 1),AV.sl 1 oi 0 n,AV.int IntKind.i64 (z.clock + 1:Int),wv,pv]]):=by simp [i3,b3]
 have hwk:Rd B stepc 2 (S2.set oi (.row 1 ((els boolc z.inn).set a [AV.bool true]))) wv z.way:=by
  refine rw'.keep (by simp;omega) fun q h1 h2 ⟨c,h3⟩=>?_
  simp [show ¬ q=oi by omega]
  rw [b4 q (by omega) (by omega) fun c' h4=>?_,a6 q h1]
  exact Rd.two ro rw' h4 h3
 refine xOQ (B:=B) c1 (v:=wv) (l:=z.way) (x:=(a,0)) (by simp) hwk lT (by simp;omega) (by simp [room];omega) fun S3 d1 d2 d3 d4=>?_
 simp at d1 d2 d3 d4
 have d5:∀q,q < S2.next->¬ q=T->¬ q=oi->(∀c,¬ wv=.sl 2 q 0 c)->S3.obj q=S2.obj q:=by
  intro q h1 h2 h3 h4
  have:=d4 q h1 h2 h4
  rw [if_neg h3] at this
  exact this
 simp
 refine hk S3 _ _ pv ⟨lT,lm,ll,li,by omega,⟨i1,i2,i3,i4,i5,i6⟩,d3,?_,?_,?_,by simp [Tj.enter,lenm],by simp [Tj.enter,lenl],by simp [Tj.enter,leni],.inr ⟨S1.next + 1,by simp [Tj.enter],by omega,by omega,?_⟩,.inr ⟨S2.next + 2,by simp [Tj.enter],by omega,by omega,d2⟩,?_,?_⟩
 ·rw [d5 om (by omega) i1' i5 (lw om lm),b5];rfl
 ·rw [d5 ol (by omega) i2' i6 (lw ol ll),b6];rfl
 ·have:=d4 oi (by omega) i3' (lw oi li)
  rw [if_pos rfl] at this
  rw [this,show [AV.bool true]=boolc true from rfl,xAg];rfl
 ·rw [d5 (S1.next + 1) (by omega) (by omega) (by omega) fun c e=>?_,b2]
  ·rfl
  ·rcases rw' with ⟨h,_⟩ | ⟨o,h,h1,h2,_⟩
   ·rw [e] at h;cases h
   ·rw [e] at h;cases h;omega
 ·refine rp.keep (by omega) fun q h1 h2 ⟨c,h3⟩=>?_
  rw [d5 q (by omega) (by omega) (by omega) fun c' h4=>Rd.two rp rw' h3 h4,b4 q (by omega) (by omega) fun c' h4=>sep q c' c h4 h3,a6 q h1]
 ·intro q x y h1 h2
  cases h1
  rcases rp with ⟨h,_⟩ | ⟨o,h,h3,h4,_⟩
  ·rw [h2] at h;cases h
  ·rw [h2] at h;cases h;omega
end Go.Proofs.YtnhfofmhkfdpgaaGreatDoor.Vm
namespace Go.Proofs.YtnhfofmhkfdpgaaGreatDoor.Vm
open Go Go.RowKit
variable {N:Nat} {g:Glob}
def Tj.up (z:Tj) (a:Nat):List Int:=match z.way.getLast? with
 | none=>z.low
 | some p=>z.low.set p.1 (if z.low.getD a 0 < z.low.getD p.1 0 then z.low.getD a 0 else z.low.getD p.1 0)
theorem Rd.app {α:Type} {B:Nat} {e:α->List AV} [OneE e] {S:St} {v:AV} {l:List α} {x:α} (h:Rd B e 1 S v l) (hr:l.length + 1<=room) :
  ∃ S',appV 1 v S [e x]=some (.sl 1 S.next 0 (l.length + 1),S')/\S'.next=S.next + 1/\S'.obj S.next=some (.row 1 (els e (l ++ [x])))/\∀q,q ≠ S.next->(∀c,v ≠ .sl 1 q 0 c)->S'.obj q=S.obj q:=by
 have hr0:¬ room=0:=by simp [room]
 have hok:okEl 1 (e x)=true:=OneE.out x
 have hok':okAll 1 [e x]:=by show ([e x].all (okEl 1))=true;rw [List.all_cons,hok];rfl
 rcases h with ⟨rfl,rfl⟩ | ⟨o,rfl,h1,h2,h3⟩
 ·refine ⟨S.new (.row 1 [e x]),by rw [xFG];simp [hr0,hok'],by simp,by simp [els],fun q hq _=>by simp [hq]⟩
 ·refine ⟨(S.drop o).new (.row 1 (els e (l ++ [x]))),?_,by simp,by simp,fun q hq hv=>?_⟩
  ·rw [xH8]
   simp [hr0,hok',h3,hr]
   rw [List.take_of_length_le (by simp)]
   simp [els]
  ·have:¬ q=o:=fun e=>hv _ (by rw [e])
   simp [hq,this]
def cur (pre:List Int) (a:Int):Option (List Int)->List Int
 | some s=>pre ++ a :: s
 | none=>pre
theorem xQU (pre:List Int) (a:Int) (s:List Int) (h:a ∉ s):∃ l x o',pre ++ a :: s=l ++ [x]/\cur pre a o'=l/\((o'=none/\x=a) \/ ∃ s',o'=some s'/\x ≠ a/\a ∉ s'):=by
 rcases List.eq_nil_or_concat s with rfl | ⟨s',y,rfl⟩
 ·exact ⟨pre,a,none,rfl,rfl,.inl ⟨rfl,rfl⟩⟩
 ·rw [List.concat_eq_append] at h ⊢
  refine ⟨pre ++ a :: s',y,some s',by simp,rfl,.inr ⟨s',rfl,fun e=>h (by simp [e]),fun e=>h (by simp [e])⟩⟩
def LvI (B n T om ol oi:Nat) (gv wv pv:AV) (z:Tj) (a:Nat) (pre:List Int) (o:Option (List Int)) (S':St) (f:AV):Prop:=∃ (ov:AV) (inn:List Bool) (part:List Int),TjS B n T om ol oi gv S' ov wv pv ⟨z.met,z.up a,inn,cur pre a o,z.way,z.clock,z.parts⟩ /\
 Rd B intc 1 S' f part/\(∀q b c,f=.sl 1 q 0 b->ov=.sl 1 q 0 c->False)/\(∀q b c,f=.sl 1 q 0 b->pv=.sl 1 q 0 c->False)/\(o=none->part ≠ [])/\(∀x ∈ part,0<=x/\x < n)/\part.length + (cur pre a o).length=z.opn.length/\∀x ∈ cur pre a o,0<=x/\x < n
theorem xJA {B n T om ol oi a:Nat} {gv ov wv pv:AV} {S:St} {z:Tj} {K:AV->St->Prop} (h:TjS B n T om ol oi gv S ov wv pv z) (ha:a < n) (hway:∀p ∈ z.way,p.1 < n) (pre suf:List Int) (hopn:z.opn=pre ++ (a:Int) :: suf) (hsuf:(a:Int) ∉ suf)
  (hob:∀x ∈ z.opn,0<=x/\x < n) (hol:z.opn.length < 2 ^ 20) (hwl:z.way.length < 2 ^ 20) (hpl:z.parts.length < 2 ^ 20)
  (hk:∀S' ov wv pv z',TjS B n T om ol oi gv S' ov wv pv z'->z'.met=z.met->z'.clock=z.clock->z'.way=z.way->z'.low=z.up a ->
   ((z'.low.getD a 0 ≠ z.met.getD a 0/\z'.opn=z.opn/\z'.parts=z.parts) \/ (z'.low.getD a 0=z.met.getD a 0/\z'.opn=pre/\∃ part:List Int,part ≠ []/\(∀x ∈ part,0<=x/\x < n)/\part.length<=z.opn.length/\z'.parts=z.parts ++ [part]))->K (.tuple []) S') :
  Cal P g 280 [.ptr T 0 0,.int .i64 (a:Int)] S K:=by
 obtain ⟨lT,lm,ll,li,le,⟨i1,i2,i3,i4,i5,i6⟩,obj,rm,rl,ri,lenm,lenl,leni,ro,rw',rp,sep⟩:=h
 refine Cal.freeze ?_
 refine c280.inW (by simp) ?_
 obtain ⟨xm,hxm⟩:∃ x,z.met[a]?=some x:=⟨_,xgG (by omega)⟩
 obtain ⟨xl,hxl⟩:∃ x,z.low[a]?=some x:=⟨_,xgG (by omega)⟩
 have i1':=Ne.symm i1
 have i2':=Ne.symm i2
 have i3':=Ne.symm i3
 have i4':=Ne.symm i4
 have i5':=Ne.symm i5
 have i6':=Ne.symm i6
 refine W.split (fun F S'=>F 0=.ptr T 0 0/\F 1=.int .i64 (a:Int)/\S'=S.set ol (.row 1 (els intc (z.up a)))) ?_ ?_
 ·simp [obj,tjCells,rw'.len]
  rcases List.eq_nil_or_concat z.way with hw | ⟨wp,⟨u,nx⟩,hw⟩
  ·have:z.up a=z.low:=by simp [Tj.up,hw]
   simp [hw,this,St.set_same rl]
  ·rw [List.concat_eq_append] at hw
   have hun:u < n:=hway (u,nx) (by rw [hw];simp)
   obtain ⟨xu,hxu⟩:∃ x,z.low[u]?=some x:=⟨_,xgG (by omega)⟩
   rcases rw' with ⟨_,h⟩ | ⟨wo,rfl,w1,w2,w3⟩
   ·rw [h] at hw;simp at hw
   have hwl':wp.length + 1=z.way.length:=by rw [hw];simp
   have hup:z.up a=z.low.set u (if xl < xu then xl else xu):=by
    simp [Tj.up,hw,List.getD_eq_getElem?_getD,hxl,hxu]
   simp [hw]
   refine xLU (l:=wp) (o:=wo) obj (by simp [tjCells,hw]) (by omega) ?_
   have hget:(els stepc (wp ++ [(u,nx)]))[wp.length]?=some [.int .i64 (u:Int),.int .i64 (nx:Int)]:=by simp [els,stepc]
   have hget2:∀h:wp.length < (els stepc (wp ++ [(u,nx)])).length,(els stepc (wp ++ [(u,nx)]))[wp.length]=[.int .i64 (u:Int),.int .i64 (nx:Int)]:=fun h=>by simp [els,stepc]
   rw [hw] at w3
   simp [w3,hget,hget2]
   refine Dra.auto [] mix ?_ ?_
   ·kernel_rfl
   simp [classes,obj,tjCells,rl,xAd hun,xAd ha,hxl,hxu,intc]
   rw [hup,<- xAg];rfl
 ·rintro F S' ⟨h0,h1,rfl⟩
  have hul:(z.up a).length=n:=by
   unfold Tj.up
   cases z.way.getLast? <;> simp [lenl]
  obtain ⟨xu,hxu⟩:∃ x,(z.up a)[a]?=some x:=⟨_,xgG (by omega)⟩
  have hgm:z.met.getD a 0=xm:=by simp [List.getD_eq_getElem?_getD,hxm]
  have hgu:(z.up a).getD a 0=xu:=by simp [List.getD_eq_getElem?_getD,hxu]
  have hT1:TjS B n T om ol oi gv (S.set ol (.row 1 (els intc (z.up a)))) ov wv pv ⟨z.met,z.up a,z.inn,z.opn,z.way,z.clock,z.parts⟩:=by
   refine ⟨lT,lm,ll,li,by simpa using le,⟨i1,i2,i3,i4,i5,i6⟩,by simp [i2,obj],by simp [i4,rm],by simp,by simp [i6',ri],lenm,hul,leni,?_,?_,?_,sep⟩
   ·exact ro.keep (by simp) fun q h1 _ _=>by simp [show ¬ q=ol by omega]
   ·exact rw'.keep (by simp) fun q h1 _ _=>by simp [show ¬ q=ol by omega]
   ·exact rp.keep (by simp) fun q h1 _ _=>by simp [show ¬ q=ol by omega]
  simp
  refine Dra.auto [] mix ?_ ?_
  ·kernel_rfl
  simp [classes,h0,h1,obj,tjCells,i1,i2,i3,i4,i1',i2',i4',rm,xAd ha,hxm,hxu,intc]
  by_cases hne:xu=xm
  ·subst hne
   simp
   refine W.whileI (fun (o:Option (List Int)) F S'=>F 0=.ptr T 0 0/\F 1=.int .i64 (a:Int)/\∃ x6,F 6=.int .i64 x6/\((∃ s,o=some s/\x6 ≠ a/\(a:Int) ∉ s) \/ (o=none/\x6=a))/\LvI B n T om ol oi gv wv pv z a pre o S' (F 5))
    (fun o=>(cur pre a o).length) ?_ (some suf) _ _ ?_
   ·rintro o F S' ⟨h0,h1,x6,h6,ho,ov,inn,part,hT,hpa,hs1,hs2,hp0,hpx,hpn,hcx⟩
    obtain ⟨_,_,_,_,le',_,obj',rm',rl',ri',_,_,leni',ro',rw2,rp',sep'⟩:=hT
    simp only at obj' rm' rl' ri' leni' ro' rw2 rp'
    rcases ho with ⟨s,rfl,hx6,has⟩ | ⟨rfl,rfl⟩
    ·obtain ⟨l,x,o',hl,hcur,ho'⟩:=xQU pre a s has
     have hcl:cur pre a (some s)=l ++ [x]:=hl
     rw [hcl] at ro' hcx hpn
     simp at hpn
     obtain ⟨hx0,hxn⟩:=hcx x (by simp)
     obtain ⟨b,rfl⟩:∃ b:Nat,x=(b:Int):=⟨x.toNat,by omega⟩
     have hbn:b < n:=by omega
     obtain ⟨xi,hxi⟩:∃ y,inn[b]?=some y:=⟨_,xgG (by omega)⟩
     rcases ro' with ⟨_,h⟩ | ⟨oo,rfl,o1,o2,o3⟩
     ·simp at h
     simp [h6,h1,hx6,h0]
     refine xSQ (l:=l) (o:=oo) obj' (by simp [tjCells]) o3 (by omega) (by omega) ?_
     simp [h0,show ¬ T=oo by omega,tjCells,show ¬ oi=oo by omega,i3',ri',xAd hbn,hxi,boolc]
     generalize hS2:(((S'.set T (AObj.row 8 [[gv,AV.sl 1 om 0 n,AV.sl 1 ol 0 n,AV.sl 1 oo 0 l.length,AV.sl 1 oi 0 n,AV.int IntKind.i64 z.clock,wv,pv]])).set oo (AObj.row 1 (els intc l))).set oi (AObj.row 1 ((els boolc inn).set b [AV.bool false])))=S2
     have b0:S2.next=S'.next:=by rw [<- hS2];rfl
     have bT:S2.obj T=some (.row 8 [tjCells gv n om ol oi (.sl 1 oo 0 l.length) wv pv z.clock]):=by rw [<- hS2];simp [i3,show ¬ T=oo by omega,tjCells]
     have bo:S2.obj oo=some (.row 1 (els intc l)):=by rw [<- hS2];simp [show ¬ oo=oi by omega]
     have bi:S2.obj oi=some (.row 1 (els boolc (inn.set b false))):=by rw [<- hS2,<- xAg];simp [boolc]
     have bq:∀q,q ≠ T->q ≠ oo->q ≠ oi->S2.obj q=S'.obj q:=by intro q h1 h2 h3;rw [<- hS2];simp [h1,h2,h3]
     have lp:∀q,q < B->∀c,F 5 ≠ .sl 1 q 0 c:=by
      intro q hq c e
      rcases hpa with ⟨h,_⟩ | ⟨o,h,h1,_⟩
      ·rw [e] at h;cases h
      ·rw [e] at h;cases h;omega
     have hpa2:Rd B intc 1 (S2.new (.row 1 [[.int .i64 (b:Int)]])) (F 5) part:=hpa.keep (by simp;omega) fun q h1 h2 ⟨c,h3⟩=>by
      simp [show ¬ q=S2.next by omega]
      exact bq q (by omega) (fun e=>hs1 q _ _ h3 (by rw [e])) (by omega)
     obtain ⟨S3,q1,q2,q3,q4⟩:=Rd.app (x:=(b:Int)) hpa2 (by simp [room];omega)
     have q1':appV 1 (F 5) (S2.new (.row 1 [[.int .i64 (b:Int)]])) [[.int .i64 (b:Int)]]=some (.sl 1 (S2.new (.row 1 [[.int .i64 (b:Int)]])).next 0 (part.length + 1),S3):=q1
     simp [q1',h0,h1]
     simp at q2
     have q5:∀q,q < S'.next->(∀c,F 5 ≠ .sl 1 q 0 c)->S3.obj q=S2.obj q:=by
      intro q hq hc
      rw [q4 q (by simp;omega) hc]
      simp [show ¬ q=S2.next by omega]
     have n5:∀(q c d:Nat),F 5=.sl 1 q 0 c->pv=.sl 1 q 0 d->False:=hs2
     refine ⟨o',by rw [hcl,hcur];simp,?_,.sl 1 oo 0 l.length,inn.set b false,part ++ [(b:Int)],⟨lT,lm,ll,li,by omega,⟨i1,i2,i3,i4,i5,i6⟩,?_,?_,?_,?_,lenm,hul,by simpa using leni',?_,?_,?_,?_⟩,?_,?_,?_,?_,?_,?_,?_⟩
     ·rcases ho' with ⟨rfl,e⟩ | ⟨s',rfl,h2,h3⟩
      ·exact .inr ⟨rfl,e⟩
      ·exact .inl ⟨s',rfl,h2,h3⟩
     ·rw [q5 T (by omega) (lp T lT)];exact bT
     ·rw [q5 om (by omega) (lp om lm),bq om i1' (by omega) i5];exact rm'
     ·rw [q5 ol (by omega) (lp ol ll),bq ol i2' (by omega) i6];exact rl'
     ·rw [q5 oi (by omega) (lp oi li)];exact bi
     ·refine .inr ⟨oo,by rw [hcur],o1,by omega,?_⟩
      rw [q5 oo o2 fun c e=>hs1 oo _ _ e rfl,hcur];exact bo
     ·refine rw2.keep (by omega) fun q h1 h2 ⟨c,h3⟩=>?_
      rw [q5 q h2 fun c' h4=>Rd.two hpa rw2 h4 h3,bq q (by omega) (fun e=>?_) (by omega)]
      subst e
      exact Rd.two (.inr ⟨q,rfl,o1,o2,o3⟩:Rd B intc 1 S' (.sl 1 q 0 (l ++ [(b:Int)]).length) (l ++ [(b:Int)])) rw2 rfl h3
     ·refine rp'.keep (by omega) fun q h1 h2 ⟨c,h3⟩=>?_
      rw [q5 q h2 fun c' h4=>n5 q c' c h4 h3,bq q (by omega) (fun e=>sep' q _ _ (by rw [e]) h3) (by omega)]
     ·intro q x y h1 h2
      cases h1
      exact sep' oo _ _ rfl h2
     ·exact .inr ⟨S2.next + 1,by simp,by omega,by omega,by simpa using q3⟩
     ·intro q x y h1 h2
      cases h1;cases h2;omega
     ·intro q x y h1 h2
      cases h1
      rcases rp' with ⟨h,_⟩ | ⟨o,h,h3,h4,_⟩
      ·rw [h2] at h;cases h
      ·rw [h2] at h;cases h;omega
     ·intro _;simp
     ·intro y hy
      rw [List.mem_append,List.mem_singleton] at hy
      rcases hy with hy | rfl
      ·exact hpx y hy
      ·exact ⟨hx0,hxn⟩
     ·rw [hcur];simp;omega
     ·intro y hy
      rw [hcur] at hy
      exact hcx y (by simp [hy])
    ·simp [h6,h1]
     rcases hpa with ⟨_,h⟩ | ⟨po,hpo,o1,o2,o3⟩
     ·exact absurd h (hp0 rfl)
     have hpne:=hp0 rfl
     rw [hpo]
     refine xBm o3 hpne (by omega) ?_
     generalize hS2:S'.set po (.row 1 (els intc (sorted part)))=S2
     have b0:S2.next=S'.next:=by rw [<- hS2];rfl
     have bp:S2.obj po=some (.row 1 (els intc (sorted part))):=by rw [<- hS2];simp
     have bq:∀q,q ≠ po->S2.obj q=S'.obj q:=by intro q h;rw [<- hS2];simp [h]
     have bT:=(bq T (by omega)).trans obj'
     have n0:¬ T=S2.next:=by omega
     simp [h0,bT,tjCells,hpo]
     have hX:S2.next=S2.next:=rfl
     have hr0:¬ room=0:=by simp [room]
     have hso:∀z ∈ (els intc (sorted part)).flatten,z.solid=true:=by
      intro z hz
      rw [xEc,List.mem_map] at hz
      obtain ⟨y,_,rfl⟩:=hz
      rfl
     have hsl:(sorted part).length=part.length:=xAH part
     have fin:∀(S3:St) (np:Nat),S3.next=S2.next + 2->np=S2.next + 1->S3.obj T=some (.row 8 [tjCells gv n om ol oi ov wv (.sl 1 np 0 (z.parts.length + 1)) z.clock])->S3.obj np=some (.row 1 (els partc z.parts ++ [[.sl 1 po 0 part.length]])) ->
       (∀q,q < S2.next->q ≠ T->(∀c,pv ≠ .sl 1 q 0 c)->S3.obj q=S2.obj q)->K (.tuple []) S3 \/ ∃ o v2,FrV S3 o (.tuple []) v2/\∃ S4,Fzn S3 S4 o/\K v2 S4:=by
      intro S3 np e1 e2 e3 e4 e5
      have lpv:∀q,q < B->∀c,pv ≠ .sl 1 q 0 c:=by
       intro q hq c e
       rcases rp' with ⟨h,_⟩ | ⟨o,h,h1,_⟩
       ·rw [e] at h;cases h
       ·rw [e] at h;cases h;omega
      have e6:S3.obj po=some (.row 1 (els intc (sorted part))):=by rw [e5 po (by omega) (by omega) fun c e=>hs2 po _ _ hpo e];exact bp
      refine .inr ⟨po,.tuple [],.inl rfl,⟨S3.next,fun q=>if q=po then none else if q=np then some (.row 1 (els partc (z.parts ++ [sorted part]))) else S3.obj q⟩,⟨rfl,by simp,?_,?_⟩,?_⟩
      ·intro sz es he
       rw [e6] at he;cases he
       exact hso
      ·intro q hq
       by_cases hqn:q=np
       ·subst hqn
        refine .inr (.inr ⟨1,els partc z.parts ++ [[.sl 1 po 0 part.length]],els partc (z.parts ++ [sorted part]),e4,by simp [hq],?_⟩)
        rw [show els partc (z.parts ++ [sorted part])=els partc z.parts ++ [partc (sorted part)] by simp [els]]
        have h9:FrV S3 po (.sl 1 po 0 part.length) (.fsl 1 (els intc (sorted part))):=by
         refine .inr ⟨1,0,part.length,_,rfl,e6,by simp [hsl],?_⟩
         rw [List.drop_zero,List.take_of_length_le (by simp [hsl])]
        exact FrVss.snoc (x:=[.sl 1 po 0 part.length]) (y:=partc (sorted part)) (show FrV S3 po _ _/\True from ⟨h9,trivial⟩) _
       ·exact .inr (.inl (by simp [hq,hqn]))
      ·refine hk _ ov wv (.sl 1 np 0 (z.parts.length + 1)) ⟨z.met,z.up a,inn,pre,z.way,z.clock,z.parts ++ [sorted part]⟩ ⟨lT,lm,ll,li,by show B<=S3.next;omega,⟨i1,i2,i3,i4,i5,i6⟩,?_,?_,?_,?_,lenm,hul,leni',?_,?_,?_,?_⟩ rfl rfl rfl rfl (.inr ⟨by simp only [hgu,hgm],rfl,sorted part,?_,?_,?_,rfl⟩)
       ·simp [show ¬ T=po by omega,show ¬ T=np by omega,e3]
       ·simp [show ¬ om=po by omega,show ¬ om=np by omega]
        rw [e5 om (by omega) i1' (lpv om lm),bq om (by omega)];exact rm'
       ·simp [show ¬ ol=po by omega,show ¬ ol=np by omega]
        rw [e5 ol (by omega) i2' (lpv ol ll),bq ol (by omega)];exact rl'
       ·simp [show ¬ oi=po by omega,show ¬ oi=np by omega]
        rw [e5 oi (by omega) i3' (lpv oi li),bq oi (by omega)];exact ri'
       ·refine ro'.keep (by show S'.next<=S3.next;omega) fun q h1 h2 ⟨c,h3⟩=>?_
        have hqp:q ≠ po:=fun e=>hs1 q _ _ (by rw [hpo,e]) h3
        simp [hqp,show ¬ q=np by omega]
        rw [e5 q (by omega) (by omega) fun c' h4=>sep' q _ _ h3 h4,bq q hqp]
       ·refine rw2.keep (by show S'.next<=S3.next;omega) fun q h1 h2 ⟨c,h3⟩=>?_
        have hqp:q ≠ po:=fun e=>Rd.two (.inr ⟨q,by rw [e],by omega,by omega,by rw [e];exact o3⟩:Rd B intc 1 S' (.sl 1 q 0 part.length) part) rw2 rfl h3
        simp [hqp,show ¬ q=np by omega]
        rw [e5 q (by omega) (by omega) fun c' h4=>Rd.two rp' rw2 h4 h3,bq q hqp]
       ·exact .inr ⟨np,by simp,by omega,by show np < S3.next;omega,by simp [show ¬ np=po by omega]⟩
       ·intro q x y h1 h2
        cases h2
        rcases ro' with ⟨h,_⟩ | ⟨o,h,h3,h4,_⟩
        ·rw [h1] at h;cases h
        ·rw [h1] at h;cases h;omega
       ·intro h
        have:=congrArg List.length h
        rw [hsl] at this
        exact hpne (List.length_eq_zero_iff.1 this)
       ·intro x hx
        rw [sorted,List.mem_mergeSort] at hx
        exact hpx x hx
       ·rw [hsl];omega
     rcases rp' with ⟨rfl,hpe⟩ | ⟨pq,rfl,p1,p2,p3⟩
     ·simp [hr0,n0,show ¬ T=S2.next + 1 by omega,bT,tjCells]
      refine fin _ (S2.next + 1) (by simp) rfl (by simp [tjCells,hpe]) ?_ ?_
      ·simp [show ¬ S2.next + 1=T by omega,hpe,els]
      ·intro q h1 h2 _
       simp [h2,show ¬ q=S2.next + 1 by omega,show ¬ q=S2.next by omega]
     ·have hpq:pq ≠ po:=fun e=>hs2 po part.length z.parts.length hpo (by rw [e])
      have p3':S2.obj pq=some (.row 1 (els partc z.parts)):=(bq pq hpq).trans p3
      simp [hr0,n0,show ¬ T=S2.next + 1 by omega,bT,tjCells,show ¬ pq=S2.next by omega,p3',show ¬ T=pq by omega,show z.parts.length + 1<=room by simp [room];omega]
      refine fin _ (S2.next + 1) (by simp) rfl (by simp [tjCells]) ?_ ?_
      ·simp [show ¬ S2.next + 1=T by omega]
       rw [List.take_of_length_le (by simp)]
      ·intro q h1 h2 h3
       have:¬ q=pq:=fun e=>h3 _ (by rw [e])
       simp [h2,this,show ¬ q=S2.next + 1 by omega,show ¬ q=S2.next by omega]
   ·simp
    refine ⟨h0,h1,hsuf,ov,z.inn,[],?_,?_,?_,?_,?_,?_,?_,?_⟩
    ·simpa [cur,hopn] using hT1
    ·exact .inl ⟨by simp,rfl⟩
    ·simp
    ·simp
    ·simp
    ·simp
    ·simp [cur,hopn]
    ·simpa [cur,<- hopn] using hob
  ·simp [hne]
   exact .inl (hk _ ov wv pv _ hT1 rfl rfl rfl rfl (.inl ⟨by simp only [hgu,hgm];exact hne,rfl,rfl⟩))
def wfst (w:List (Nat × Nat)):List Int:=w.map fun p=>(p.1:Int)
structure Wfj (C:List (List Int)) (z:Tj):Prop where
 lm:z.met.length=C.length
 ll:z.low.length=C.length
 rng:∀x ∈ z.opn,0<=x/\x < C.length
 nodup:z.opn.Nodup
 omet:∀a:Nat,(a:Int) ∈ z.opn->z.met.getD a 0 ≠ 0
 sub:(wfst z.way).Sublist z.opn
 nx:∀p ∈ z.way,p.2<=(C.getD p.1 []).length
 low:∀a:Nat,z.met.getD a 0 ≠ 0->1<=z.low.getD a 0/\z.low.getD a 0<=z.met.getD a 0
 cnt:z.parts.length + z.opn.length + z.met.count 0<=C.length
 clk:z.clock + z.met.count 0=C.length
 prt:∀l ∈ z.parts,l ≠ []/\(∀x ∈ l,0<=x/\x < C.length)/\l.length<=C.length
theorem Wfj.wrng {C:List (List Int)} {z:Tj} (h:Wfj C z):∀p ∈ z.way,p.1 < C.length:=by
 intro p hp
 have:=h.rng (p.1:Int) (h.sub.subset (by rw [wfst,List.mem_map];exact ⟨p,hp,rfl⟩))
 omega
theorem Wfj.wlen {C:List (List Int)} {z:Tj} (h:Wfj C z):z.way.length<=z.opn.length:=by
 have:=h.sub.length_le
 simpa [wfst] using this
theorem xM4 {l:List Int} {i:Nat} {y:Int} (h:l[i]?=some 0) (hy:y ≠ 0):(l.set i y).count 0 + 1=l.count 0:=by
 induction l generalizing i with
 | nil=>simp at h
 | cons a l ih =>
  cases i with
  | zero=>simp at h;subst h;simp [List.count_cons,hy]
  | succ i =>
   have:=ih (i:=i) (by simpa using h)
   simp only [List.set_cons_succ,List.count_cons]
   omega
theorem xCj {l:List Int} {i k:Nat} {y:Int} (h:i < l.length):(l.set i y).getD k 0=if k=i then y else l.getD k 0:=by
 simp only [List.getD_eq_getElem?_getD]
 by_cases hk:k=i
 ·subst hk;rw [List.getElem?_set_self h];simp
 ·rw [List.getElem?_set_ne (Ne.symm hk)];simp [hk]
theorem Wfj.enter {C:List (List Int)} {z:Tj} (h:Wfj C z) {a:Nat} (ha:a < C.length) (hm:z.met[a]?=some 0):Wfj C (z.enter a):=by
 have hg:z.met.getD a 0=0:=by simp [List.getD_eq_getElem?_getD,hm]
 have ham:a < z.met.length:=by rw [h.lm];exact ha
 have hal:a < z.low.length:=by rw [h.ll];exact ha
 have hno:(a:Int) ∉ z.opn:=fun h'=>h.omet a h' hg
 have hcs:=xM4 (y:=(z.clock + 1:Nat)) hm (by omega)
 have h3:=h.cnt
 have h4:=h.clk
 refine ⟨by simp [Tj.enter,h.lm],by simp [Tj.enter,h.ll],?_,?_,?_,?_,?_,?_,?_,?_,h.prt⟩
 ·intro x hx
  simp only [Tj.enter,List.mem_append,List.mem_singleton] at hx
  rcases hx with hx | rfl
  ·exact h.rng x hx
  ·omega
 ·simp only [Tj.enter]
  rw [List.nodup_append]
  refine ⟨h.nodup,by simp,?_⟩
  intro x hx y hy e
  simp at hy
  subst hy;subst e
  exact hno hx
 ·intro b hb
  simp only [Tj.enter] at hb ⊢
  rw [xCj ham]
  split
  ·omega
  ·rename_i hne
   rw [List.mem_append,List.mem_singleton] at hb
   rcases hb with hb | hb
   ·exact h.omet b hb
   ·omega
 ·simp only [Tj.enter,wfst,List.map_append,List.map_cons,List.map_nil]
  exact List.Sublist.append h.sub (List.Sublist.refl _)
 ·intro p hp
  simp only [Tj.enter,List.mem_append,List.mem_singleton] at hp
  rcases hp with hp | rfl
  ·exact h.nx p hp
  ·exact Nat.zero_le _
 ·intro b hb
  simp only [Tj.enter] at hb ⊢
  rw [xCj ham] at hb
  rw [xCj ham,xCj hal]
  by_cases hba:b=a
  ·simp [hba];omega
  ·simp only [if_neg hba] at hb ⊢
   exact h.low b hb
 ·simp only [Tj.enter,List.length_append,List.length_singleton];omega
 ·simp only [Tj.enter];omega
theorem xOR {l pre suf:List Int} {a:Int} (h:(l ++ [a]).Sublist (pre ++ a :: suf)) (h1:a ∉ pre) (h2:a ∉ suf):l.Sublist pre:=by
 rw [List.sublist_append_iff] at h
 obtain ⟨l1,l2,he,hl1,hl2⟩:=h
 rcases List.eq_nil_or_concat l2 with rfl | ⟨m,y,rfl⟩
 ·simp at he
  have:a ∈ l1:=by rw [<- he];simp
  exact absurd (hl1.subset this) h1
 ·rw [List.concat_eq_append,<- List.append_assoc] at he
  obtain ⟨he1,he2⟩:=List.append_inj' he rfl
  simp at he2
  subst he2
  rw [List.concat_eq_append] at hl2
  have hm:m=[]:=by
   cases m with
   | nil=>rfl
   | cons b m =>
    cases hl2 with
    | cons _ h=>exact absurd (h.subset (by simp)) h2
    | cons_cons _ h=>exact absurd (h.subset (by simp)) h2
  subst hm
  simp at he1
  rw [he1];exact hl1
theorem Wfj.split {C:List (List Int)} {z:Tj} (h:Wfj C z) {wp:List (Nat × Nat)} {a nx:Nat} (hw:z.way=wp ++ [(a,nx)]):∃ pre suf,z.opn=pre ++ (a:Int) :: suf/\(a:Int) ∉ pre/\(a:Int) ∉ suf/\(wfst wp).Sublist pre:=by
 have hs:=h.sub
 rw [hw] at hs
 simp only [wfst,List.map_append,List.map_cons,List.map_nil] at hs
 have hm:(a:Int) ∈ z.opn:=hs.subset (by simp)
 obtain ⟨pre,suf,he⟩:=List.append_of_mem hm
 have hn:=h.nodup
 rw [he] at hn hs
 rw [List.nodup_append] at hn
 obtain ⟨_,n2,n3⟩:=hn
 have hp:(a:Int) ∉ pre:=fun hx=>n3 _ hx _ (by simp) rfl
 have hsf:(a:Int) ∉ suf:=by
  rw [List.nodup_cons] at n2
  exact n2.1
 exact ⟨pre,suf,he,hp,hsf,xOR hs hp hsf⟩
theorem xR2 {C:List (List Int)} {z:Tj} (h:Wfj C z) {wp:List (Nat × Nat)} {a nx:Nat} (hw:z.way=wp ++ [(a,nx)]):∀b:Nat,z.met.getD b 0 ≠ 0->1<=(Tj.up ⟨z.met,z.low,z.inn,z.opn,wp,z.clock,z.parts⟩ a).getD b 0/\(Tj.up ⟨z.met,z.low,z.inn,z.opn,wp,z.clock,z.parts⟩ a).getD b 0<=z.met.getD b 0:=by
 intro b hb
 have hb':=h.low b hb
 unfold Tj.up
 cases hl:wp.getLast? with
 | none=>exact hb'
 | some p =>
  have hp:p ∈ wp:=List.mem_of_getLast? hl
  have hpw:=h.wrng p (by rw [hw];simp [hp])
  simp only []
  rw [xCj (by rw [h.ll];exact hpw)]
  split
  ·rename_i e
   subst e
   have ham:z.met.getD a 0 ≠ 0:=h.omet a (h.sub.subset (by rw [hw];simp [wfst]))
   have:=h.low a ham
   split <;> omega
  ·exact hb'
theorem xVq (z:Tj) (a:Nat):(z.up a).length=z.low.length:=by
 unfold Tj.up
 cases z.way.getLast? <;> simp
theorem Wfj.leave {C:List (List Int)} {z z':Tj} (h:Wfj C z) {wp:List (Nat × Nat)} {a nx:Nat} (hw:z.way=wp ++ [(a,nx)]) {pre suf:List Int} (ho:z.opn=pre ++ (a:Int) :: suf) (hs:(wfst wp).Sublist pre)
  (e1:z'.met=z.met) (e2:z'.clock=z.clock) (e3:z'.way=wp) (e4:z'.low=Tj.up ⟨z.met,z.low,z.inn,z.opn,wp,z.clock,z.parts⟩ a)
  (e5:(z'.low.getD a 0 ≠ z.met.getD a 0/\z'.opn=z.opn/\z'.parts=z.parts) \/ (z'.low.getD a 0=z.met.getD a 0/\z'.opn=pre/\∃ part:List Int,part ≠ []/\(∀x ∈ part,0<=x/\x < C.length)/\part.length<=z.opn.length/\z'.parts=z.parts ++ [part])):Wfj C z':=by
 have hup:=xR2 h hw
 rw [<- e4] at hup
 have h3:=h.cnt
 have h4:=h.clk
 have hsz:(wfst wp).Sublist z.opn:=by rw [ho];exact hs.trans (List.sublist_append_left _ _)
 have hnx:∀p ∈ z'.way,p.2<=(C.getD p.1 []).length:=by
  intro p hp
  rw [e3] at hp
  exact h.nx p (by rw [hw];simp [hp])
 have hll:z'.low.length=C.length:=by rw [e4,xVq];exact h.ll
 rcases e5 with ⟨_,e6,e7⟩ | ⟨_,e6,part,p1,p2,p3,e7⟩
 ·exact ⟨by rw [e1];exact h.lm,hll,by rw [e6];exact h.rng,by rw [e6];exact h.nodup,by rw [e6,e1];exact h.omet,by rw [e3,e6];exact hsz,hnx,by rw [e1];exact hup,by rw [e7,e6,e1];exact h3,by rw [e2,e1];exact h4,by rw [e7];exact h.prt⟩
 ·have hpre:∀x ∈ pre,x ∈ z.opn:=fun x hx=>by rw [ho];simp [hx]
  have hlen:z.opn.length=pre.length + (suf.length + 1):=by rw [ho];simp
  refine ⟨by rw [e1];exact h.lm,hll,by rw [e6];exact fun x hx=>h.rng x (hpre x hx),?_,by rw [e6,e1];exact fun b hb=>h.omet b (hpre _ hb),by rw [e3,e6];exact hs,hnx,by rw [e1];exact hup,?_,by rw [e2,e1];exact h4,?_⟩
  ·have:=h.nodup
   rw [ho,List.nodup_append] at this
   rw [e6];exact this.1
  ·rw [e7,e6,e1,List.length_append,List.length_singleton];omega
  ·intro l hl
   rw [e7,List.mem_append,List.mem_singleton] at hl
   rcases hl with hl | rfl
   ·exact h.prt l hl
   ·exact ⟨p1,p2,by omega⟩
theorem Wfj.next {C:List (List Int)} {z:Tj} (h:Wfj C z) {wp:List (Nat × Nat)} {a nx:Nat} (hw:z.way=wp ++ [(a,nx)]) (hlt:nx < (C.getD a []).length):Wfj C ⟨z.met,z.low,z.inn,z.opn,wp ++ [(a,nx + 1)],z.clock,z.parts⟩:=by
 refine ⟨h.lm,h.ll,h.rng,h.nodup,h.omet,?_,?_,h.low,h.cnt,h.clk,h.prt⟩
 ·have:=h.sub
  rw [hw] at this
  simpa [wfst] using this
 ·intro p hp
  simp only [List.mem_append,List.mem_singleton] at hp
  rcases hp with hp | rfl
  ·exact h.nx p (by rw [hw];simp [hp])
  ·exact hlt
theorem Wfj.lows {C:List (List Int)} {z:Tj} (h:Wfj C z) {a b:Nat} (ha:a < C.length) (hb:z.met.getD b 0 ≠ 0):Wfj C ⟨z.met,z.low.set a (if z.met.getD b 0 < z.low.getD a 0 then z.met.getD b 0 else z.low.getD a 0),z.inn,z.opn,z.way,z.clock,z.parts⟩:=by
 refine ⟨h.lm,by simpa using h.ll,h.rng,h.nodup,h.omet,h.sub,h.nx,?_,h.cnt,h.clk,h.prt⟩
 intro c hc
 simp only at hc ⊢
 rw [xCj (by rw [h.ll];exact ha)]
 split
 ·rename_i e
  subst e
  have h1:=h.low c hc
  have h2:=h.low b hb
  split <;> omega
 ·exact h.low c hc
def wsum (C:List (List Int)) (w:List (Nat × Nat)):Nat:=(w.map fun p=>(C.getD p.1 []).length + 1 - p.2).sum
def usum:List (List Int)->List Int->Nat
 | l :: C,m :: M=>(if m=0 then l.length + 2 else 0) + usum C M
 | _,_=>0
theorem xQV {C:List (List Int)} {M:List Int} {b:Nat} {y:Int} (h:M[b]?=some 0) (hb:b < C.length) (hy:y ≠ 0):usum C (M.set b y) + ((C.getD b []).length + 2)=usum C M:=by
 induction C generalizing M b with
 | nil=>simp at hb
 | cons l C ih =>
  cases M with
  | nil=>simp at h
  | cons m M =>
   cases b with
   | zero =>
    simp at h;subst h
    simp [usum,hy];omega
   | succ b =>
    have:=ih (M:=M) (b:=b) (by simpa using h) (by simpa using hb)
    simp [usum] at this ⊢
    omega
theorem xCB (C:List (List Int)) (w:List (Nat × Nat)) (p:Nat × Nat):wsum C (w ++ [p])=wsum C w + ((C.getD p.1 []).length + 1 - p.2):=by simp [wsum]
end Go.Proofs.YtnhfofmhkfdpgaaGreatDoor.Vm
namespace Go.Proofs.YtnhfofmhkfdpgaaGreatDoor.Vm
set_option maxRecDepth 100000
open Go Go.RowKit
variable {N:Nat} {g:Glob}
theorem TjS.wayTo {B n T om ol oi:Nat} {gv ov wv pv:AV} {S S':St} {z:Tj} (h:TjS B n T om ol oi gv S ov wv pv z) {wo:Nat} {c:Nat} (hwv:wv=.sl 2 wo 0 c) {way':List (Nat × Nat)} (hn:S.next<=S'.next)
  (hT:S'.obj T=some (.row 8 [tjCells gv n om ol oi ov (.sl 2 wo 0 way'.length) pv z.clock])) (hw:S'.obj wo=some (.row 2 (els stepc way'))) (hq:∀q,q < S.next->q ≠ T->q ≠ wo->S'.obj q=S.obj q) :
  TjS B n T om ol oi gv S' ov (.sl 2 wo 0 way'.length) pv ⟨z.met,z.low,z.inn,z.opn,way',z.clock,z.parts⟩:=by
 obtain ⟨lT,lm,ll,li,le,⟨i1,i2,i3,i4,i5,i6⟩,obj,rm,rl,ri,lenm,lenl,leni,ro,rw',rp,sep⟩:=h
 have hwo:B<=wo/\wo < S.next:=by
  rcases rw' with ⟨h,_⟩ | ⟨o,h,h1,h2,_⟩
  ·rw [hwv] at h;cases h
  ·rw [hwv] at h;cases h;exact ⟨h1,h2⟩
 refine ⟨lT,lm,ll,li,by omega,⟨i1,i2,i3,i4,i5,i6⟩,hT,?_,?_,?_,lenm,lenl,leni,?_,.inr ⟨wo,rfl,hwo.1,by omega,hw⟩,?_,sep⟩
 ·rw [hq om (by omega) (Ne.symm i1) (by omega)];exact rm
 ·rw [hq ol (by omega) (Ne.symm i2) (by omega)];exact rl
 ·rw [hq oi (by omega) (Ne.symm i3) (by omega)];exact ri
 ·refine ro.keep hn fun q h1 h2 ⟨d,h3⟩=>hq q h2 (by omega) fun e=>?_
  exact Rd.two ro rw' h3 (by rw [hwv,e])
 ·refine rp.keep hn fun q h1 h2 ⟨d,h3⟩=>hq q h2 (by omega) fun e=>?_
  exact Rd.two rp rw' h3 (by rw [hwv,e])
def Rt (z:Tj):Prop:=z.parts ≠ [] \/ ∃ r nx rest,z.way=(r,nx) :: rest/\z.met.getD r 0=1
def RnI (B T om ol oi:Nat) (gv:AV) (C:List (List Int)) (S:St) (z:Tj):Prop:=∃ ov wv pv,TjS B C.length T om ol oi gv S ov wv pv z/\Wfj C z/\Rt z
theorem xHy {B T om ol oi f:Nat} {gv ov wv pv:AV} {C:List (List Int)} {S:St} {z:Tj} {K:AV->St->Prop} (hg:GrV gv C) (h:TjS B C.length T om ol oi gv S ov wv pv z) (hz:Wfj C z) (hw0:z.way=[]) (hf:f < C.length) (hm0:z.met[f]?=some 0) (hn:C.length<=128)
  (hin:∀l ∈ C,l.length < 1048576/\∀x ∈ l,0<=x/\x < C.length) (h0:z.parts ≠ [] \/ z.clock=0)
  (hk:∀S' ov wv pv z',TjS B C.length T om ol oi gv S' ov wv pv z'->Wfj C z'->z'.way=[]->z'.parts ≠ []->K (.tuple []) S'):Cal P g 270 [.ptr T 0 0,.int .i64 (f:Int)] S K:=by
 have hc1:=hz.cnt
 have hc2:=hz.clk
 refine Cal.inF (by kernel_rfl) ?_
 conv=>arg 3;reduce
 simp
 refine xFt h hf (by omega) (by omega) (by simp [hw0]) fun S1 ov1 wv1 pv1 h1=>?_
 have hz1:=hz.enter hf hm0
 have hr1:Rt (z.enter f):=by
  rcases h0 with h0 | h0
  ·exact .inl h0
  ·refine .inr ⟨f,0,[],by simp [Tj.enter,hw0],?_⟩
   simp only [Tj.enter]
   rw [xCj (by rw [hz.lm];exact hf),if_pos rfl,h0];rfl
 simp
 refine W.whileI (fun (z:Tj) F S=>F 0=.ptr T 0 0/\RnI B T om ol oi gv C S z) (fun z=>wsum C z.way + usum C z.met) ?_ (z.enter f) _ _ ?_
 ·rintro z F S ⟨h0,ov,wv,pv,hT,hz,hr⟩
  have hc1:=hz.cnt
  have hc2:=hz.clk
  have hc3:=hz.wlen
  have obj:=hT.obj
  rcases List.eq_nil_or_concat z.way with hw | ⟨wp,⟨a,nx⟩,hw⟩
  ·have hp:z.parts ≠ []:=by
    rcases hr with h | ⟨_,_,_,h,_⟩
    ·exact h
    ·rw [hw] at h;cases h
   simp [h0,obj,tjCells,hT.rw.len,hw]
   exact hk S ov wv pv z hT hz hw hp
  ·rw [List.concat_eq_append] at hw
   have han:a < C.length:=hz.wrng (a,nx) (by rw [hw];simp)
   obtain ⟨l,hl⟩:∃ l,C[a]?=some l:=⟨_,xgG han⟩
   have hgd:C.getD a []=l:=by simp [List.getD_eq_getElem?_getD,hl]
   obtain ⟨w,hw1,hix⟩:=hg.idx hl
   obtain ⟨hll,hlx⟩:=hin l (xmG hl)
   have hnx:nx<=l.length:=by
    have:nx<=(C.getD a []).length:=hz.nx (a,nx) (by rw [hw];simp)
    rwa [hgd] at this
   have hwl:z.way.length=wp.length + 1:=by rw [hw];simp
   rcases hT.rw with ⟨_,h⟩ | ⟨wo,hwv,w1,w2,w3⟩
   ·rw [hw] at h;simp at h
   rw [hwl] at hwv
   rw [hw] at w3
   have hget:(els stepc (wp ++ [(a,nx)]))[wp.length]?=some [.int .i64 (a:Int),.int .i64 (nx:Int)]:=by simp [els,stepc]
   have hget2:∀h:wp.length < (els stepc (wp ++ [(a,nx)])).length,(els stepc (wp ++ [(a,nx)]))[wp.length]=[.int .i64 (a:Int),.int .i64 (nx:Int)]:=fun h=>by simp [els,stepc]
   have hTo:¬ T=wo:=by have:=hT.lT;omega
   simp [h0,obj,tjCells,hT.rw.len,hwl]
   refine xLU (l:=wp) (o:=wo) obj (by simp [tjCells,hwv]) (by omega) ?_
   simp
   refine Dra.auto [] mix ?_ ?_
   ·kernel_rfl
   simp [classes,h0,obj,tjCells,w3,hget,hget2,hix,hw1.len]
   by_cases hlt:nx=l.length
   ·simp [hlt,h0]
    refine xQT (l:=wp) (x:=(a,nx)) (o:=wo) obj (by simp [tjCells,hwv]) w3 hTo (by have:=hT.lT;have:=hT.le;omega) w2 (by omega) fun S2 b1 b2 b3 b4=>?_
    have hT2:=hT.wayTo hwv (S':=S2) (way':=wp) (by omega) (by simpa [tjCells] using b2) b3 b4
    obtain ⟨pre,suf,s1,s2,s3,s4⟩:=hz.split hw
    simp [stepc]
    refine xJA hT2 han (fun p hp=>hz.wrng p (by rw [hw];simp [hp])) pre suf s1 s3 hz.rng (by simp only;omega) (by simp only;omega) (by simp only;omega) fun S3 ov3 wv3 pv3 z3 c1 c2 c3 c4 c5 c6=>?_
    have hz3:=hz.leave hw s1 s4 c2 c3 c4 c5 c6
    simp [h0]
    refine ⟨z3,?_,ov3,wv3,pv3,c1,hz3,?_⟩
    ·rw [c4,c2,hw,xCB,hgd];simp only;omega
    ·rcases hr with h | ⟨r,rn,rest,h,hm⟩
     ·left
      rcases c6 with ⟨_,_,h'⟩ | ⟨_,_,part,_,_,_,h'⟩
      ·rw [h'];exact h
      ·rw [h'];simp
     ·cases wp with
      | nil =>
       rw [hw] at h
       simp at h
       obtain ⟨⟨rfl,rfl⟩,rfl⟩:=h
       left
       rcases c6 with ⟨h1,_,_⟩ | ⟨_,_,part,_,_,_,h'⟩
       ·have h2:=xR2 hz hw a (by omega)
        rw [<- c5] at h2
        simp only at h1
        omega
       ·rw [h'];simp
      | cons q wp' =>
       rw [hw] at h
       simp at h
       obtain ⟨rfl,rfl⟩:=h
       exact .inr ⟨r,rn,wp',by rw [c4],by rw [c2];exact hm⟩
   ·have hlt':¬ (nx:Int)=(l.length:Int):=by omega
    have hnl:nx < l.length:=by omega
    obtain ⟨x,hxk⟩:∃ x,l[nx]?=some x:=⟨_,xgG hnl⟩
    obtain ⟨hx0,hxn⟩:=hlx x (xmG hxk)
    obtain ⟨b,rfl⟩:∃ b:Nat,x=(b:Int):=⟨x.toNat,by omega⟩
    have hbn:b < C.length:=by omega
    have e4:=wrapS nx (by omega)
    have hz2:=hz.next hw (by rw [hgd];exact hnl)
    simp [hlt']
    refine Dra.auto [] mix ?_ ?_
    ·kernel_rfl
    have ids:=hT.ids
    have hwoB:B<=wo:=by
     rcases hT.rw with ⟨h,_⟩ | ⟨o,h,h1,_⟩
     ·rw [hwv] at h;cases h
     ·rw [hwv] at h
      have:=(AV.sl.inj h).2.1
      omega
    have lm:=hT.lm
    have ll:=hT.ll
    have li:=hT.li
    obtain ⟨mb,hmb⟩:∃ y,z.met[b]?=some y:=⟨_,xgG (by rw [hz.lm];exact hbn)⟩
    have rm1:=hT.rm
    simp [classes,h0,obj,tjCells,w3,hget,hget2,hix,hw1.idx hxk,intc,e4,hTo,rm1,show ¬ om=wo by omega,xAd hbn,hmb]
    have hset:(els stepc (wp ++ [(a,nx)])).set wp.length [AV.int .i64 (a:Int),.int .i64 ((nx:Int) + 1)]=els stepc (wp ++ [(a,nx + 1)]):=by
     rw [show [AV.int IntKind.i64 (a:Int),AV.int IntKind.i64 ((nx:Int) + 1)]=stepc (a,nx + 1) by simp [stepc],xAg,xIn]
    rw [hset]
    generalize hS2:S.set wo (.row 2 (els stepc (wp ++ [(a,nx + 1)])))=S2
    have b0:S2.next=S.next:=by rw [<- hS2];rfl
    have hT2:=hT.wayTo hwv (S':=S2) (way':=wp ++ [(a,nx + 1)]) (by omega) (by rw [<- hS2];simp [hTo,obj,hwv]) (by rw [<- hS2];simp) (fun q _ _ h=>by rw [<- hS2];simp [h])
    have obj2:=hT2.obj
    have rm2:=hT2.rm
    have ri2:=hT2.ri
    have rl2:=hT2.rl
    simp only at rm2 ri2 rl2
    obtain ⟨ib,hib⟩:∃ y,z.inn[b]?=some y:=⟨_,xgG (by rw [hT.leni];exact hbn)⟩
    obtain ⟨la,hla⟩:∃ y,z.low[a]?=some y:=⟨_,xgG (by rw [hz.ll];exact han)⟩
    have hgb:z.met.getD b 0=mb:=by simp [List.getD_eq_getElem?_getD,hmb]
    have hga:z.low.getD a 0=la:=by simp [List.getD_eq_getElem?_getD,hla]
    have hr2:∀(met low:List Int) (way:List (Nat × Nat)) (clock:Nat) (inn:List Bool) (opn:List Int),(∀r,z.met.getD r 0=1->met.getD r 0=1)->(∃ t,way=wp ++ [(a,nx + 1)] ++ t)->Rt ⟨met,low,inn,opn,way,clock,z.parts⟩:=by
     intro met low way clock inn opn hmm ⟨t,hway⟩
     rcases hr with h | ⟨r,rn,rest,h,hm⟩
     ·exact .inl h
     ·right
      cases wp with
      | nil =>
       rw [hw] at h
       simp at h
       obtain ⟨⟨rfl,rfl⟩,rfl⟩:=h
       exact ⟨a,nx + 1,t,by simp [hway],hmm _ hm⟩
      | cons q wp' =>
       rw [hw] at h
       simp at h
       obtain ⟨rfl,rfl⟩:=h
       exact ⟨r,rn,wp' ++ [(a,nx + 1)] ++ t,by simp [hway],hmm _ hm⟩
    by_cases hmb0:mb=0
    ·subst hmb0
     simp [h0]
     refine xFt hT2 hbn (by simp only;omega) (by simp only;omega) (by simp only [List.length_append,List.length_singleton];omega) fun S3 ov3 wv3 pv3 h3=>?_
     have hz3:=hz2.enter hbn hmb
     have hus:=xQV (C:=C) (y:=(z.clock + 1:Nat)) hmb hbn (by omega)
     simp [h0]
     refine ⟨_,?_,ov3,wv3,pv3,h3,hz3,hr2 _ _ _ _ _ _ (fun r hr=>?_) ⟨[(b,0)],rfl⟩⟩
     ·simp only [Tj.enter]
      rw [hw,xCB,xCB,xCB,hgd]
      simp only
      omega
     ·rw [xCj (by rw [hz.lm];exact hbn)]
      split
      ·rename_i e;rw [e,hgb] at hr;omega
      ·exact hr
    ·have hz3:=hz2.lows (a:=a) (b:=b) han (by simp only;rw [hgb];exact hmb0)
     simp only [hgb,hga] at hz3
     have hms:wsum C (wp ++ [(a,nx + 1)]) + usum C z.met < wsum C z.way + usum C z.met:=by
      rw [hw,xCB,xCB,hgd]
      simp only
      omega
     simp [hmb0,h0,obj2,tjCells,ri2,xAd hbn,hib,boolc]
     cases ib
     ·simp [h0]
      exact ⟨_,hms,ov,_,pv,hT2,hz2,hr2 _ _ _ _ _ _ (fun r hr=>hr) ⟨[],by simp⟩⟩
     ·simp
      refine Dra.auto [] mix ?_ ?_
      ·kernel_rfl
      simp [classes,h0,obj2,tjCells,rl2,rm2,xAd hbn,xAd han,hla,hmb,intc,foldI]
      refine ⟨⟨z.met,z.low.set a (if mb < la then mb else la),z.inn,z.opn,wp ++ [(a,nx + 1)],z.clock,z.parts⟩,hms,ov,.sl 2 wo 0 (wp ++ [(a,nx + 1)]).length,pv,⟨hT2.lT,lm,ll,li,by simpa using hT2.le,ids,?_,?_,?_,?_,hT2.lenm,by simpa using hT2.lenl,hT2.leni,?_,?_,?_,hT2.sep⟩,hz3,hr2 _ _ _ _ _ _ (fun r hr=>hr) ⟨[],by simp⟩⟩
      ·simp [ids.2.1,obj2]
      ·simp [ids.2.2.2.1,rm2]
      ·simp
       rw [<- xAg];rfl
      ·simp [Ne.symm ids.2.2.2.2.2,ri2]
      ·exact hT2.ro.keep (by simp) fun q h1 _ _=>by simp [show ¬ q=ol by omega]
      ·exact hT2.rw.keep (by simp) fun q h1 _ _=>by simp [show ¬ q=ol by omega]
      ·exact hT2.rp.keep (by simp) fun q h1 _ _=>by simp [show ¬ q=ol by omega]
 ·simp
  exact ⟨ov1,wv1,pv1,h1,hz1,hr1⟩
end Go.Proofs.YtnhfofmhkfdpgaaGreatDoor.Vm
