/- A part of the proof: Gr Gs Gt Gu Gv Gw Gx Ga Gz Hb Hd He Hf Hg Hi. -/
import Derived.KernelRfl
import Derived.Test.YtnhfofmhkfdpgaaGreatDoorQ23
set_option linter.unusedVariables false
set_option linter.unusedSimpArgs false
set_option linter.constructorNameAsVariable false
namespace Go.Proofs.YtnhfofmhkfdpgaaGreatDoor.Vm
set_option maxRecDepth 100000
open Go Go.RowKit
variable {N:Nat} {g:Glob}
theorem xHz {a b:List Int} {x y:Int} {S:St} {K:AV->St->Prop} (ha:a[0]?=some x) (hb:b[0]?=some y) (hk:K (.int .i64 (IntKind.i64.wrap (x - y))) S):Cal P g 272 [.fsl 1 (els intc a),.fsl 1 (els intc b)] S K:=by
 refine Cal.inF (by kernel_rfl) ?_
 have h1:pk (PK.indexAddr 1) [AV.fsl 1 (els intc a),AV.int IntKind.i64 0]=some (.fptr (intc x) 0):=FSl.idx (k:=0) (FSl.mk (e:=intc) (sz:=1) (l:=a)) ha
 have h2:pk (PK.indexAddr 1) [AV.fsl 1 (els intc b),AV.int IntKind.i64 0]=some (.fptr (intc y) 0):=FSl.idx (k:=0) (FSl.mk (e:=intc) (sz:=1) (l:=b)) hb
 conv=>arg 3;reduce
 simp
 refine Dra.auto [] mix ?_ ?_
 ·kernel_rfl
 simp [classes,h1,h2,intc]
 exact hk
theorem xKT (f:AV) (S:St) (K:AV->St->Prop) (hk:K (.tuple []) S):Cal P g 287 [.nilsl,.int .i64 0,.int .i64 0,f] S K:=by
 refine Cal.inF (by kernel_rfl) ?_
 conv=>arg 3;reduce
 simp [sk0]
 refine W.whileI (fun (k:Nat) F S'=>F 2=.int .i64 0/\F 8=.int .i64 1/\S'=S) (fun _=>0) ?_ 0 _ _ ?_
 ·rintro k F S' ⟨h2,h6,rfl⟩
  simp [h2,h6]
  exact hk
 ·simp
  rfl
theorem xQW (f:AV) (S:St) (lim:Int) (K:AV->St->Prop) (hk:K (.tuple []) S):Cal P g 282 [.nilsl,.int .i64 0,.int .i64 0,.int .i64 lim,f] S K:=by
 refine Cal.inF (by kernel_rfl) ?_
 conv=>arg 3;reduce
 simp [sk10]
 refine W.whileI (fun (k:Nat) F S'=>F 0=.nilsl/\F 1=.int .i64 0/\F 2=.int .i64 0/\F 4=f/\S'=S) (fun _=>0) ?_ 0 _ _ ?_
 ·rintro k F S' ⟨h0,h1,h2,h4,rfl⟩
  have ew:IntKind.i64.wrap 0=0:=rfl
  simp [h1,h2,h0,h4,ew]
  refine xKT f S' _ ?_
  simp
  exact hk
 ·simp
theorem xJB {f:AV} {S:St} {K:AV->St->Prop} (hk:K (.tuple []) S):Cal P g 271 [.nilsl,f] S K:=by
 refine Cal.inF (by kernel_rfl) ?_
 conv=>arg 3;reduce
 simp [sk13]
 have e0:IntKind.u64.wrap 0=((0:Nat):Int):=rfl
 rw [e0]
 refine (bits_Len 0 (by omega)).use (n:=9) ?_ rfl ?_ <;> simp
 refine xQW _ _ _ _ ?_
 simp
 exact hk
structure PartsOK (n:Nat) (Ps:List (List Int)):Prop where
 some:0 < n->Ps ≠ []
 len:Ps.length<=n
 each:∀l ∈ Ps,l ≠ []/\(∀x ∈ l,0<=x/\x < n)/\l.length<=n
def PtI (T om ol oi B:Nat) (gv:AV) (C:List (List Int)) (a:Nat) (S:St):Prop:=∃ ov wv pv z,TjS B C.length T om ol oi gv S ov wv pv z/\Wfj C z/\z.way=[]/\(z.parts ≠ [] \/ z.clock=0)/\(0 < a->z.parts ≠ [])
theorem xIo (L:List (List Int)):GrV (.fsl 1 (els (fun l=>[encF intc 1 l]) L)) L:=by
 refine .inr ⟨L.map fun l=>encF intc 1 l,by simp [els],by simp,fun k w l hw hl=>?_⟩
 rw [List.getElem?_map,hl] at hw
 cases hw
 exact xAl
theorem xBM {S:St} {o:Nat} {l:List Int} {m:Nat} (h:S.obj o=some (.row 1 (els intc l))):pict S [] (m + 2) (.sl 1 o 0 l.length)=some (.fsl 1 (els intc l)):=by
 refine xAr (es:=els intc l) h (by simp) (by simp) fun k e he=>?_
 rw [he]
 simp only [els,List.getElem?_map] at he
 cases hz:l[k]? with
 | none=>rw [hz] at he;cases he
 | some x=>rw [hz] at he;cases he;simp [intc]
theorem Dra.autoR {P:Program} {l:List VOper} {aft:List (List Nat)} {F:AFrame} {S:St} {Q:Res->Prop} (R:St) (hR:Sub R S) (xs ls:List Nat) (hm:P.follows .mixedOrders=true) (hc:(decide ((classes xs ls l 0 false).length=l.length) && drawChk (l.zip (classes xs ls l 0 false)) aft)=true) (h:vcDs P g S R l (classes xs ls l 0 false) F S Q):Dra P g l aft F S Q:=drawnR R hR _ hm hc h
structure Shrunk (n:Nat) (L:List (List Int)) (r:List Int):Prop where
 len:L.length<=n
 short:∀l ∈ L,l.length < 1048576
 rlen:r.length=n
 rng:∀x ∈ r,0<=x/\x < L.length
theorem xEQ (l:List Nat):els natc l=els intc (l.map fun k:Nat=>(k:Int)):=by simp [els,natc,intc]
theorem xAo {α:Type} {l:List α} {i:Nat} {y:α} (h:i < l.length):(l.set i y).take (i + 1)=l.take i ++ [y]:=by
 rw [xAe (x:=y) (by rw [List.getElem?_set_self h]),List.take_set_of_le (by omega)]
theorem xVr : mrow P 245 "Len" = some (0, some (339, false)) := by kernel_rfl
theorem xSR : mrow P 245 "Less" = some (0, some (340, false)) := by kernel_rfl
theorem xSS : mrow P 245 "Swap" = some (0, some (343, false)) := by kernel_rfl
theorem xST : mrow P 245 "Push" = some (0, some (342, true)) := by kernel_rfl
theorem xVs : mrow P 245 "Pop" = some (0, some (341, true)) := by kernel_rfl
theorem xJC:ptrTo P 245=some 246:=by kernel_rfl
theorem xKU:sizeT P 246=some 1:=by kernel_rfl
theorem xOT:aggT P 246=some false:=by kernel_rfl
structure Hp (S:St) (H ho:Nat) (h:List Nat):Prop where
 box:S.obj H=some (.row 1 [[.sl 1 ho 0 h.length]])
 row:S.obj ho=some (.row 1 (els natc h))
 ne:H ≠ ho
 lH:H < S.next
 lo:ho < S.next
theorem Hp.load {S:St} {H ho:Nat} {h:List Nat} (hp:Hp S H ho h):sk (.load false 1) [.ptr H 0 0] S=some (.sl 1 ho 0 h.length,S):=by
 simp [hp.box]
theorem Hp.set {S:St} {H ho:Nat} {h h':List Nat} (hp:Hp S H ho h) (hl:h'.length=h.length):Hp (S.set ho (.row 1 (els natc h'))) H ho h' :=
 ⟨by simp [hp.ne,hp.box,hl],by simp,hp.ne,by simpa using hp.lH,by simpa using hp.lo⟩
theorem xIq {S : St} {H ho : Nat} {h : List Nat} {K : AV → St → Prop} (hp : Hp S H ho h) (hk : K (.int .i64 h.length) S) : CalI P g (.iface 245 (.ptr H 0 0)) "Len" [] S K := by
 refine CalI.v xVr xJC xKU xOT hp.load ?_
 refine Cal.inF (by kernel_rfl) ?_
 conv=>arg 3;reduce
 simp
 exact hk
theorem xDc {S : St} {H ho a b : Nat} {h : List Nat} {K : AV → St → Prop} (hp : Hp S H ho h) (ha : a < h.length) (hb : b < h.length) (hk : ∀ t : Bool, K (.bool t) S) : CalI P g (.iface 245 (.ptr H 0 0)) "Less" [.int .i64 (a : Int), .int .i64 (b : Int)] S K := by
 refine CalI.v xSR xJC xKU xOT hp.load ?_
 refine Cal.inF (by kernel_rfl) ?_
 obtain ⟨x,hx⟩:∃ x,h[a]?=some x:=⟨_,xgG ha⟩
 obtain ⟨y,hy⟩:∃ x,h[b]?=some x:=⟨_,xgG hb⟩
 conv=>arg 3;reduce
 simp
 refine Dra.auto [] mix ?_ ?_
 ·kernel_rfl
 simp [classes,xAd ha,xAd hb,hp.row,hx,hy,natc]
 exact hk _
theorem xDd {S : St} {H ho a b : Nat} {h : List Nat} {K : AV → St → Prop} (hp : Hp S H ho h) (ha : a < h.length) (hb : b < h.length) (hk : ∀ h' : List Nat, h'.Perm h → K (.tuple []) (S.set ho (.row 1 (els natc h')))) : CalI P g (.iface 245 (.ptr H 0 0)) "Swap" [.int .i64 (a : Int), .int .i64 (b : Int)] S K := by
 refine CalI.v xSS xJC xKU xOT hp.load ?_
 refine Cal.inF (by kernel_rfl) ?_
 obtain ⟨x,hx⟩:∃ x,h[a]?=some x:=⟨_,xgG ha⟩
 obtain ⟨y,hy⟩:∃ x,h[b]?=some x:=⟨_,xgG hb⟩
 conv=>arg 3;reduce
 simp
 refine Dra.auto [] mix ?_ ?_
 ·kernel_rfl
 have fin:K (.tuple []) (S.set ho (.row 1 (els natc ((h.set a y).set b x)))):=by
  exact hk _ (xAn hx hy)
 by_cases hab:a=b
 ·subst hab
  rw [hx] at hy;cases hy
  have hself:((els natc h).set a [AV.int IntKind.i64 (x:Int)])[a]?=some [AV.int IntKind.i64 (x:Int)]:=by rw [List.getElem?_set_self (by simpa using ha)]
  simp [classes,xAd ha,hp.row,hx,natc,hself]
  rw [<- xAg,<- xAg] at fin
  simpa [xAk,natc] using fin
 ·simp [classes,xAd ha,xAd hb,hp.row,hx,hy,natc,hab]
  rw [<- xAg,<- xAg] at fin
  simpa [xAk,natc] using fin
theorem xM7 {S:St} {H ho x:Nat} {h:List Nat} {K:AV->St->Prop} (hp:Hp S H ho h) (hr:h.length + 1<=room)
  (hk : ∀ S', S'.next = S.next + 2 → Hp S' H (S.next + 1) (h ++ [x]) → (∀ q, q < S.next → q ≠ H → q ≠ ho → S'.obj q = S.obj q) → K (.tuple []) S') : CalI P g (.iface 245 (.ptr H 0 0)) "Push" [.iface 3 (.int .i64 (x : Int))] S K := by
 refine CalI.p xST xJC ?_
 refine Cal.inF (by kernel_rfl) ?_
 have hr0:¬ room=0:=by simp [room]
 have l1:=hp.lH
 have l2:=hp.lo
 have n0:¬ H=S.next:=by omega
 have n1:¬ H=S.next + 1:=by omega
 have n2:¬ ho=S.next:=by omega
 have n3:=hp.ne
 conv=>arg 3;reduce
 simp
 refine Dra.auto [] mix ?_ ?_
 ·kernel_rfl
 simp [classes,hp.box,hp.row,xJf,hr0,n0,n1,n2,n3,hr]
 refine hk _ (by simp) ⟨by simp,?_,by omega,by simp;omega,by simp⟩ ?_
 ·simp [show ¬ S.next + 1=H by omega]
  rw [List.take_of_length_le (by simp)]
  simp [els,natc]
 ·intro q hq h1 h2
  simp [h1,h2,show ¬ q=S.next by omega,show ¬ q=S.next + 1 by omega]
theorem xOU {S:St} {H ho x:Nat} {h:List Nat} {K:AV->St->Prop} (hp:Hp S H ho (h ++ [x])) (hl:h.length < 2 ^ 40)
  (hk : K (.iface 3 (.int .i64 (x : Int))) ((S.set H (.row 1 [[.sl 1 ho 0 h.length]])).set ho (.row 1 (els natc h)))) : CalI P g (.iface 245 (.ptr H 0 0)) "Pop" [] S K := by
 refine CalI.p xVs xJC ?_
 refine Cal.less ?_
 refine Cal.inF (by kernel_rfl) ?_
 have hb:=hp.box
 have hrow:=hp.row
 simp only [List.length_append,List.length_singleton] at hb
 have e5:IntKind.i64.wrap (h.length:Int)=(h.length:Int):=xAa (by omega)
 have hix:pk (PK.indexAddr 1) [AV.sl 1 ho 0 (h.length + 1),AV.int IntKind.i64 (h.length:Int)]=some (.ptr ho (0 + h.length) 0):=xAd (by omega)
 have hsl:pk (.slice 1 false true false) [.sl 1 ho 0 (h.length + 1),.int .i64 (h.length:Int)]=some (.sl 1 ho 0 h.length):=xJl (by omega)
 have hget:(els natc (h ++ [x]))[h.length]?=some [.int .i64 (x:Int)]:=by simp [els,natc]
 have hget2:∀h':h.length < (els natc (h ++ [x])).length,(els natc (h ++ [x]))[h.length]=[.int .i64 (x:Int)]:=fun h=>by simp [els,natc]
 conv=>arg 3;reduce
 simp [hb,hrow,e5,hix,hget,hget2,hsl]
 have hcut:=Wk.cut (S:=S.set H (.row 1 [[.sl 1 ho 0 h.length]])) (o:=ho) (sz:=1) (es:=els natc (h ++ [x])) h.length (by simp [Ne.symm hp.ne,hrow])
 rw [xAu,List.take_left' rfl] at hcut
 exact ⟨_,hcut,hk⟩
theorem xSU {S:St} {H ho j:Nat} {h:List Nat} {K:AV->St->Prop} (hp:Hp S H ho h) (hj:j < h.length) (hl:h.length < 2 ^ 30) (hk:∀h':List Nat,h'.Perm h->K (.tuple []) (S.set ho (.row 1 (els natc h')))):Cal P g 233 [.iface 245 (.ptr H 0 0),.int .i64 (j:Int)] S K:=by
 refine Cal.inF (by kernel_rfl) ?_
 conv=>arg 3;reduce
 simp
 refine W.whileI (fun (j:Nat) F S'=>j < h.length/\F 0=.iface 245 (.ptr H 0 0)/\F 1=.int .i64 j/\∃ h':List Nat,h'.Perm h/\S'=S.set ho (.row 1 (els natc h'))) (fun j=>j) ?_ j _ _ ?_
 ·rintro j F S' ⟨hj,h0,h1,h',hpm,rfl⟩
  have hp':=hp.set hpm.length_eq
  have hl':=hpm.length_eq
  by_cases hj0:j=0
  ·subst hj0
   have e1:IntKind.i64.wrap (-1)=-1:=rfl
   have e2:IntKind.i64.wrap ((-1:Int).tdiv 2)=0:=rfl
   simp [h1,e1,e2]
   exact hk h' hpm
  ·have e1:IntKind.i64.wrap ((j:Int) - 1)=((j - 1:Nat):Int):=by rw [xAa (by omega)];omega
   obtain ⟨i,hi,hij⟩:∃ i:Nat,((j - 1:Nat):Int) / 2=(i:Int)/\i < j:=⟨(j - 1) / 2,by omega,by omega⟩
   have e2:IntKind.i64.wrap (i:Int)=i:=xAa (by omega)
   have e4:¬ (i:Int)=(j:Int):=by omega
   have e3:¬ i=j:=by omega
   simp [h1,e1,hi,e2,e3,e4,h0]
   refine xDc hp' (by omega) (by omega) fun t=>?_
   cases t
   ·simp
    exact hk h' hpm
   ·simp [h0,h1]
    refine xDd hp' (by omega) (by omega) fun h2 hp2=>?_
    simp [h0]
    refine ⟨i,hij,by omega,rfl,h2,hp2.trans hpm,?_⟩
    rw [xAk]
 ·simp
  exact ⟨hj,h,.refl _,(St.set_same hp.row).symm⟩
theorem xOV {S:St} {H ho n:Nat} {h:List Nat} {K:AV->St->Prop} (hp:Hp S H ho h) (hn:n<=h.length) (hl:h.length < 2 ^ 30) (hk:∀(h':List Nat) (t:Bool),h'.Perm h->K (.bool t) (S.set ho (.row 1 (els natc h')))):Cal P g 234 [.iface 245 (.ptr H 0 0),.int .i64 0,.int .i64 (n:Int)] S K:=by
 refine Cal.inF (by kernel_rfl) ?_
 conv=>arg 3;reduce
 simp
 refine W.whileI (fun (i:Nat) F S'=>i<=n/\F 0=.iface 245 (.ptr H 0 0)/\F 1=.int .i64 0/\F 2=.int .i64 n/\F 7=.int .i64 i/\∃ h':List Nat,h'.Perm h/\S'=S.set ho (.row 1 (els natc h'))) (fun i=>n - i) ?_ 0 _ _ ?_
 ·rintro i F S' ⟨hi,h0,h1,h2,h7,h',hpm,rfl⟩
  have hp':=hp.set hpm.length_eq
  have hl':=hpm.length_eq
  have e1:IntKind.i64.wrap (2 * (i:Int))=2 * (i:Int):=xAa (by omega)
  obtain ⟨j,hj⟩:∃ j:Nat,2 * (i:Int) + 1=(j:Int):=⟨2 * i + 1,by omega⟩
  have e2:IntKind.i64.wrap (j:Int)=j:=xAa (by omega)
  have e3:=wrapS j (by omega)
  by_cases hjn:n<=j
  ·simp [h7,h2,e1,hj,e2,hjn,h1]
   exact hk h' _ hpm
  ·have hj0:¬ (j:Int) < 0:=by omega
   simp [h7,h2,e1,hj,e2,hjn,hj0,e3]
   by_cases hj2:(j:Int) + 1 < (n:Int)
   ·have hj2':j + 1 < n:=by omega
    simp [hj2,h0]
    refine xDc hp' (a:=j + 1) (b:=j) (by omega) (by omega) fun t=>?_
    cases t
    ·simp [h0,h7]
     refine xDc hp' (a:=j) (b:=i) (by omega) (by omega) fun t2=>?_
     cases t2
     ·simp [h1,h7]
      exact hk h' _ hpm
     ·simp [h0,h7]
      refine xDd hp' (a:=i) (b:=j) (by omega) (by omega) fun h2' hp2=>?_
      simp [h0,h1,h2]
      exact ⟨j,by omega,by omega,by omega,h2',hp2.trans hpm,by rw [xAk]⟩
    ·simp [h0,h7]
     refine xDc hp' (a:=j + 1) (b:=i) (by omega) (by omega) fun t2=>?_
     cases t2
     ·simp [h1,h7]
      exact hk h' _ hpm
     ·simp [h0,h7]
      refine xDd hp' (a:=i) (b:=j + 1) (by omega) (by omega) fun h2' hp2=>?_
      simp [h0,h1,h2]
      exact ⟨j + 1,by omega,by omega,by omega,h2',hp2.trans hpm,by rw [xAk]⟩
   ·simp [hj2,h0,h7]
    refine xDc hp' (a:=j) (b:=i) (by omega) (by omega) fun t2=>?_
    cases t2
    ·simp [h1,h7]
     exact hk h' _ hpm
    ·simp [h0,h7]
     refine xDd hp' (a:=i) (b:=j) (by omega) (by omega) fun h2' hp2=>?_
     simp [h0,h1,h2]
     exact ⟨j,by omega,by omega,by omega,h2',hp2.trans hpm,by rw [xAk]⟩
 ·simp
  exact ⟨h,.refl _,(St.set_same hp.row).symm⟩
theorem xOW {S:St} {H ho x:Nat} {h:List Nat} {K:AV->St->Prop} (hp:Hp S H ho h) (hl:h.length < 2 ^ 20)
  (hk:∀S' h',Hp S' H (S.next + 1) h'->h'.Perm (h ++ [x])->S'.next=S.next + 2->(∀q,q < S.next->q ≠ H->q ≠ ho->S'.obj q=S.obj q)->K (.tuple []) S'):Cal P g 180 [.iface 245 (.ptr H 0 0),.iface 3 (.int .i64 (x:Int))] S K:=by
 refine Cal.inF (by kernel_rfl) ?_
 have e1:IntKind.i64.wrap (h.length:Int)=(h.length:Int):=xAa (by omega)
 conv=>arg 3;reduce
 simp
 refine xM7 hp (by simp [room];omega) fun S1 a1 a2 a3=>?_
 simp
 refine xIq a2 ?_
 simp [e1]
 refine xSU a2 (by simp) (by simp;omega) fun h' hpm=>?_
 simp
 refine hk _ h' (a2.set hpm.length_eq) hpm (by simp [a1]) fun q h1 h2 h3=>?_
 simp [show ¬ q=S.next + 1 by omega]
 exact a3 q h1 h2 h3
theorem xQX {S:St} {H ho:Nat} {h:List Nat} {K:AV->St->Prop} (hp:Hp S H ho h) (hne:h ≠ []) (hl:h.length < 2 ^ 20)
  (hk:∀S' h' (x:Nat),Hp S' H ho h'->(h' ++ [x]).Perm h->S'.next=S.next->(∀q,q ≠ H->q ≠ ho->S'.obj q=S.obj q)->K (.iface 3 (.int .i64 (x:Int))) S'):Cal P g 182 [.iface 245 (.ptr H 0 0)] S K:=by
 refine Cal.inF (by kernel_rfl) ?_
 have hpos:=List.length_pos_iff.2 hne
 have e1:IntKind.i64.wrap ((h.length:Int) - 1)=((h.length - 1:Nat):Int):=by rw [xAa (by omega)];omega
 conv=>arg 3;reduce
 simp
 refine xIq hp ?_
 simp [e1]
 refine xDd hp (a:=0) (b:=h.length - 1) (by omega) (by omega) fun h1 hp1=>?_
 have a1:=hp.set hp1.length_eq
 have l1:=hp1.length_eq
 simp
 refine xOV a1 (n:=h.length - 1) (by omega) (by omega) fun h2 t hp2=>?_
 have a2:=a1.set hp2.length_eq
 have l2:=hp2.length_eq
 simp
 rcases List.eq_nil_or_concat h2 with e | ⟨h3,x,e⟩
 ·subst e;simp at l2;omega
 ·rw [List.concat_eq_append] at e
  subst e
  refine xOU a2 (by simp at l2;omega) ?_
  simp
  refine hk _ h3 x ⟨by simp [hp.ne],by simp,hp.ne,by simpa using hp.lH,by simpa using hp.lo⟩ (hp2.trans hp1) (by simp) fun q k1 k2=>by simp [k1,k2]
def KeysI (es:List (AV × AV)):Prop:=∀p ∈ es,∃ z,p.1=.int .i64 z
theorem KeysI.find {es:List (AV × AV)} (h:KeysI es) (i:Int):∃ r,findV (.int .i64 i) es=some r:=by
 induction es with
 | nil=>exact ⟨none,rfl⟩
 | cons p es ih =>
  obtain ⟨q,u⟩:=p
  obtain ⟨z,hz⟩:=h (q,u) (by simp)
  simp only at hz
  subst hz
  obtain ⟨r,hr⟩:=ih fun p hp=>h p (by simp [hp])
  simp only [findV,keyEq,scalarEq,if_true]
  cases hb:(i == z)
  ·exact ⟨r,hr⟩
  ·exact ⟨some u,rfl⟩
theorem KeysI.put {es:List (AV × AV)} (h:KeysI es) (k:Int) (v:AV):∃ es',putV (.int .i64 k) v es=some es'/\KeysI es'/\∀i,findV (.int .i64 i) es'=if i=k then some (some v) else findV (.int .i64 i) es:=by
 induction es with
 | nil =>
  refine ⟨[(.int .i64 k,v)],rfl,fun p hp=>?_,fun i=>?_⟩
  ·simp at hp;exact ⟨k,by rw [hp]⟩
  ·simp only [findV,keyEq,scalarEq,if_true]
   by_cases hik:i=k
   ·simp [hik]
   ·have:(i == k)=false:=by simpa using hik
    simp [this,hik]
 | cons p es ih =>
  obtain ⟨q,u⟩:=p
  obtain ⟨z,hz⟩:=h (q,u) (by simp)
  simp only at hz
  subst hz
  obtain ⟨es',h1,h2,h3⟩:=ih fun p hp=>h p (by simp [hp])
  simp only [putV,keyEq,scalarEq,if_true]
  by_cases hkz:k=z
  ·subst hkz
   refine ⟨(.int .i64 k,v) :: es,by simp,fun p hp=>?_,fun i=>?_⟩
   ·rcases List.mem_cons.1 hp with rfl | hp
    ·exact ⟨k,rfl⟩
    ·exact h p (by simp [hp])
   ·simp only [findV,keyEq,scalarEq,if_true]
    by_cases hik:i=k
    ·simp [hik]
    ·have:(i == k)=false:=by simpa using hik
     simp [this,hik]
  ·have hb:(k == z)=false:=by simpa using hkz
   refine ⟨(.int .i64 z,u) :: es',by simp [hb,h1],fun p hp=>?_,fun i=>?_⟩
   ·rcases List.mem_cons.1 hp with rfl | hp
    ·exact ⟨z,rfl⟩
    ·exact h2 p hp
   ·simp only [findV,keyEq,scalarEq,if_true,h3 i]
    by_cases hiz:i=z
    ·have:¬ i=k:=fun e=>hkz (e.symm.trans hiz)
     subst hiz
     simp [this]
    ·have:(i == z)=false:=by simpa using hiz
     simp [this]
def todo (ord h:List Nat) (i:Nat):Prop:=∃ k,k ∈ h/\ord[k]?=some i
structure Wo (n:Nat) (ord:List Nat) (S:St) (W A I H ho:Nat) (ov:AV) (h:List Nat):Prop where
 obj:S.obj W=some (.row 4 [[ov,.map A,.map I,.iface 245 (.ptr H 0 0)]])
 hp:Hp S H ho h
 at':∃ ea,S.obj A=some (.map ea)/\KeysI ea/\∀i,i < n->∃ k:Nat,findV (.int .i64 (i:Int)) ea=some (some (.int .i64 (k:Int)))/\ord[k]?=some i
 in':∃ ei,S.obj I=some (.map ei)/\KeysI ei/\∀i:Nat,i < n->(findV (.int .i64 (i:Int)) ei=some none/\¬ todo ord h i) \/ ∃ b:Bool,findV (.int .i64 (i:Int)) ei=some (some (.bool b))/\(b=true ↔ todo ord h i)
 ids:A ≠ I/\W ≠ A/\W ≠ I/\W ≠ H/\W ≠ ho/\A ≠ H/\A ≠ ho/\I ≠ H/\I ≠ ho
 lt:W < S.next/\A < S.next/\I < S.next
 orow:(ov=.nilsl/\ord=[]) \/ ∃ q,ov=.sl 1 q 0 ord.length/\q < S.next/\S.obj q=some (.row 1 (els natc ord))/\q ≠ W/\q ≠ A/\q ≠ I/\q ≠ H/\q ≠ ho
 perm:ord.Perm (List.range n)
 nodup:h.Nodup
 hlt:∀k ∈ h,k < n
theorem xJD {S:St} {W:Nat} {a b c:AV} {t:Nat} {v:AV} {K:AV->St->Prop} (h:S.obj W=some (.row 4 [[a,b,c,.iface t v]])) (hk:K (.bool true) S):Cal P g 179 [.ptr W 0 0] S K:=by
 refine Cal.inF (by kernel_rfl) ?_
 conv=>arg 3;reduce
 simp [h]
 exact hk
theorem xQY {n:Nat} {ord:List Nat} {S:St} {W A I H ho:Nat} {ov:AV} {h:List Nat} {K:AV->St->Prop} (hw:Wo n ord S W A I H ho ov h) (hk:K (.int .i64 h.length) S):Cal P g 181 [.ptr W 0 0] S K:=by
 refine Cal.inF (by kernel_rfl) ?_
 conv=>arg 3;reduce
 simp
 refine xJD hw.obj ?_
 simp [hw.obj]
 refine xIq hw.hp ?_
 simp
 exact hk
theorem Wo.len {n:Nat} {ord:List Nat} {S:St} {W A I H ho:Nat} {ov:AV} {h:List Nat} (hw:Wo n ord S W A I H ho ov h):ord.length=n:=by rw [hw.perm.length_eq];simp
theorem xIr:∀(n:Nat) (h:List Nat),h.Nodup->(∀k ∈ h,k < n)->h.length<=n
 | 0,h,_,hl=>by
  cases h with
  | nil=>simp
  | cons a h=>exact absurd (hl a (by simp)) (by omega)
 | n + 1,h,hn,hl=>by
  by_cases hm:n ∈ h
  ·have h1:=xIr n (h.erase n) (hn.erase n) fun k hk=>by
    have h2:=(hn.mem_erase_iff.1 hk)
    have:=hl k h2.2
    have:=h2.1
    omega
   rw [List.length_erase_of_mem hm] at h1
   omega
  ·have h1:=xIr n h hn fun k hk=>by
    have:=hl k hk
    have:k ≠ n:=fun e=>hm (e ▸ hk)
    omega
   omega
theorem Wo.hl {n:Nat} {ord:List Nat} {S:St} {W A I H ho:Nat} {ov:AV} {h:List Nat} (hw:Wo n ord S W A I H ho ov h):h.length<=n:=xIr n h hw.nodup hw.hlt
theorem xSV {n:Nat} {ord:List Nat} (hp:ord.Perm (List.range n)) {k l i:Nat} (h1:ord[k]?=some i) (h2:ord[l]?=some i):k=l:=by
 have hn:ord.Nodup:=hp.nodup_iff.2 List.nodup_range
 obtain ⟨a,b⟩:=xgS h1
 obtain ⟨c,d⟩:=xgS h2
 exact (List.getElem_inj hn).1 (b.trans d.symm)
def WoF (S S':St) (I H ho:Nat):Prop:=S.next<=S'.next/\∀q,q < S.next->q ≠ I->q ≠ H->q ≠ ho->S'.obj q=S.obj q
theorem xFL {n i:Nat} {ord:List Nat} {S:St} {W A I H ho:Nat} {ov:AV} {h:List Nat} {K:AV->St->Prop} (hw:Wo n ord S W A I H ho ov h) (hi:i < n) (hn:n<=128)
  (hk:∀S' ho' h' b,Wo n ord S' W A I H ho' ov h'->(∀j,todo ord h' j ↔ todo ord h j \/ j=i)->WoF S S' I H ho->(ho'=ho \/ S.next<=ho')->h'.length<=h.length + 1->K (.bool b) S'):Cal P g 121 [.ptr W 0 0,.int .i64 (i:Int)] S K:=by
 have hhl:=hw.hl
 obtain ⟨obj,hp,⟨ea,a1,a2,a3⟩,⟨ei,b1,b2,b3⟩,⟨d1,d2,d3,d4,d5,d6,d7,d8,d9⟩,⟨l1,l2,l3⟩,oo,pm,nd,hlt⟩:=id hw
 refine Cal.inF (by kernel_rfl) ?_
 conv=>arg 3;reduce
 simp
 refine xJD obj ?_
 obtain ⟨r,hr⟩:=b2.find (i:Int)
 obtain ⟨k,e1,e2⟩:=a3 i hi
 obtain ⟨ei',g1,g2,g3⟩:=b2.put (i:Int) (.bool true)
 have hkn:k < n:=by
  have:=(xgS e2).1
  rw [hw.len] at this;exact this
 have hcase:(r=some (.bool true)/\todo ord h i) \/ ((r=none \/ r=some (.bool false))/\¬ todo ord h i):=by
  rcases b3 i hi with ⟨f1,f2⟩ | ⟨b,f1,f2⟩
  ·rw [hr] at f1;cases f1
   exact .inr ⟨.inl rfl,f2⟩
  ·rw [hr] at f1;cases f1
   cases b
   ·exact .inr ⟨.inr rfl,fun h'=>by cases f2.2 h'⟩
   ·exact .inl ⟨rfl,f2.1 rfl⟩
 rcases hcase with ⟨rfl,f3⟩ | ⟨hr2,f2⟩
 ·simp [obj,b1,hr]
  exact hk S ho h false hw (fun j=>⟨.inl,fun h'=>h'.elim id fun e=>e ▸ f3⟩) ⟨Nat.le_refl _,fun _ _ _ _ _=>rfl⟩ (.inl rfl) (by omega)
 ·have hk0:k ∉ h:=fun h'=>f2 ⟨k,h',e2⟩
  have hpS:Hp (S.set I (.map ei')) H ho h:=⟨by simp [Ne.symm d8,hp.box],by simp [Ne.symm d9,hp.row],hp.ne,by simpa using hp.lH,by simpa using hp.lo⟩
  rcases hr2 with rfl | rfl <;> simp [obj,b1,hr,a1,e1,g1,d3]
  all_goals
  refine xOW hpS (by omega) fun S' h' k1 k2 k3 k4=>?_
  simp at k1 k3 k4
  have k5:∀q,q < S.next->q ≠ I->q ≠ H->q ≠ ho->S'.obj q=S.obj q:=fun q h1 h2 h3 h4=>by
   have:=k4 q h1 h3 h4
   rwa [if_neg h2] at this
  have hmem:∀j,j ∈ h' ↔ j ∈ h \/ j=k:=fun j=>by rw [k2.mem_iff];simp
  have htd:∀j,todo ord h' j ↔ todo ord h j \/ j=i:=by
   intro j
   constructor
   ·rintro ⟨l,h1,h2⟩
    rcases (hmem l).1 h1 with h3 | rfl
    ·exact .inl ⟨l,h3,h2⟩
    ·rw [e2] at h2;cases h2;exact .inr rfl
   ·rintro (⟨l,h1,h2⟩ | rfl)
    ·exact ⟨l,(hmem l).2 (.inl h1),h2⟩
    ·exact ⟨k,(hmem k).2 (.inr rfl),e2⟩
  simp
  refine hk S' (S.next + 1) h' true ⟨?_,k1,⟨ea,?_,a2,a3⟩,⟨ei',?_,g2,?_⟩,⟨d1,d2,d3,d4,by omega,d6,by omega,d8,by omega⟩,⟨by omega,by omega,by omega⟩,?_,pm,?_,?_⟩ htd ⟨by omega,k5⟩ (.inr (by omega)) (by rw [k2.length_eq];simp)
  ·rw [k5 W l1 d3 d4 d5];exact obj
  ·rw [k5 A l2 d1 d6 d7];exact a1
  ·have:=k4 I l3 d8 d9
   rwa [if_pos rfl] at this
  ·intro j hj
   rw [g3]
   by_cases hji:(j:Int)=(i:Int)
   ·rw [if_pos hji]
    exact .inr ⟨true,rfl,by simp only [true_iff];exact (htd j).2 (.inr (by omega))⟩
   ·rw [if_neg hji]
    rcases b3 j hj with ⟨m1,m2⟩ | ⟨b,m1,m2⟩
    ·exact .inl ⟨m1,fun h'=>((htd j).1 h').elim m2 fun e=>hji (by omega)⟩
    ·exact .inr ⟨b,m1,m2.trans ⟨fun h'=>(htd j).2 (.inl h'),fun h'=>((htd j).1 h').elim id fun e=>absurd (by omega) hji⟩⟩
  ·rcases oo with h | ⟨q,rfl,o1,o2,o3,o4,o5,o6,o7⟩
   ·exact .inl h
   ·exact .inr ⟨q,rfl,by omega,by rw [k5 q o1 o5 o6 o7];exact o2,o3,o4,o5,o6,by omega⟩
  ·rw [k2.nodup_iff,List.nodup_append]
   exact ⟨nd,by simp,fun x hx y hy e=>by simp at hy;subst hy;subst e;exact hk0 hx⟩
  ·intro x hx
   rcases (hmem x).1 hx with h | rfl
   ·exact hlt x h
   ·exact hkn
theorem xGt {n:Nat} {ord:List Nat} {S:St} {W A I H ho:Nat} {ov:AV} {h:List Nat} {K:AV->St->Prop} (hw:Wo n ord S W A I H ho ov h) (hn:n<=128)
  (hk0:h=[]->K (.tuple [.int .i64 0,.bool false]) S)
  (hk:∀S' h' i,Wo n ord S' W A I H ho ov h'->i < n->todo ord h i->(∀j,todo ord h' j ↔ todo ord h j/\j ≠ i)->WoF S S' I H ho->h'.length + 1=h.length->K (.tuple [.int .i64 (i:Int),.bool true]) S'):Cal P g 122 [.ptr W 0 0] S K:=by
 have hhl:=hw.hl
 obtain ⟨obj,hp,⟨ea,a1,a2,a3⟩,⟨ei,b1,b2,b3⟩,⟨d1,d2,d3,d4,d5,d6,d7,d8,d9⟩,⟨l1,l2,l3⟩,oo,pm,nd,hlt⟩:=id hw
 refine Cal.inF (by kernel_rfl) ?_
 conv=>arg 3;reduce
 simp
 refine xQY hw ?_
 by_cases hne:h=[]
 ·subst hne
  simp
  exact hk0 rfl
 ·have hlen:¬ h.length=0:=fun e=>hne (List.length_eq_zero_iff.1 e)
  simp [hne,obj]
  refine xQX hp hne (by omega) fun S' h' k k1 k2 k3 k4=>?_
  have hkh:k ∈ h:=k2.mem_iff.1 (by simp)
  have hkn:=hlt k hkh
  have hol:=hw.len
  obtain ⟨i,hi⟩:∃ i,ord[k]?=some i:=⟨_,xgG (by omega)⟩
  have hin:i < n:=by
   have:=pm.mem_iff.1 (xmG hi)
   exact List.mem_range.1 this
  have hmem:∀j,j ∈ h ↔ j ∈ h' \/ j=k:=fun j=>by rw [<- k2.mem_iff];simp
  have hnd:(h' ++ [k]).Nodup:=k2.nodup_iff.2 nd
  rw [List.nodup_append] at hnd
  have hk':k ∉ h':=fun hx=>hnd.2.2 k hx k (by simp) rfl
  have htd:∀j,todo ord h' j ↔ todo ord h j/\j ≠ i:=by
   intro j
   constructor
   ·rintro ⟨l,h1,h2⟩
    refine ⟨⟨l,(hmem l).2 (.inl h1),h2⟩,fun e=>?_⟩
    subst e
    have:=xSV pm h2 hi
    exact hk' (this ▸ h1)
   ·rintro ⟨⟨l,h1,h2⟩,hji⟩
    rcases (hmem l).1 h1 with h3 | rfl
    ·exact ⟨l,h3,h2⟩
    ·rw [hi] at h2;cases h2;exact absurd rfl hji
  rcases oo with ⟨_,h⟩ | ⟨q,rfl,o1,o2,o3,o4,o5,o6,o7⟩
  ·rw [h] at hol;simp at hol;omega
  obtain ⟨ei',g1,g2,g3⟩:=b2.put (i:Int) (.bool false)
  have oW:S'.obj W=_:=(k4 W d4 d5).trans obj
  have oI:S'.obj I=_:=(k4 I d8 d9).trans b1
  have oq:S'.obj q=_:=(k4 q o6 o7).trans o2
  have hko:k < ord.length:=by omega
  simp [xJf,oW,xAd hko,oq,hi,natc,oI,g1]
  refine hk _ h' i ⟨?_,⟨by simp [Ne.symm d8,k1.box],by simp [Ne.symm d9,k1.row],k1.ne,by simpa using k1.lH,by simpa using k1.lo⟩,⟨ea,?_,a2,a3⟩,⟨ei',?_,g2,?_⟩,⟨d1,d2,d3,d4,d5,d6,d7,d8,d9⟩,⟨?_,?_,?_⟩,?_,pm,hnd.1,fun x hx=>hlt x ((hmem x).2 (.inl hx))⟩ hin ⟨k,hkh,hi⟩ htd ⟨by simp [k3],?_⟩ (by rw [<- k2.length_eq];simp)
  ·simp [d3,oW]
  ·simp [d1]
   rw [k4 A d6 d7];exact a1
  ·simp
  ·intro j hj
   rw [g3]
   by_cases hji:(j:Int)=(i:Int)
   ·rw [if_pos hji]
    refine .inr ⟨false,rfl,?_⟩
    constructor
    ·intro h;cases h
    ·intro h'
     exact absurd (by omega) ((htd j).1 h').2
   ·rw [if_neg hji]
    have hji':j ≠ i:=fun e=>hji (by omega)
    rcases b3 j hj with ⟨m1,m2⟩ | ⟨b,m1,m2⟩
    ·exact .inl ⟨m1,fun h'=>m2 ((htd j).1 h').1⟩
    ·exact .inr ⟨b,m1,m2.trans ⟨fun h'=>(htd j).2 ⟨h',hji'⟩,fun h'=>((htd j).1 h').1⟩⟩
  ·simp [k3];exact l1
  ·simp [k3];exact l2
  ·simp [k3];exact l3
  ·exact .inr ⟨q,rfl,by simp [k3];exact o1,by simp [o5,oq],o3,o4,o5,o6,o7⟩
  ·intro x hx h1 h2 h3
   simp [h1]
   exact k4 x h2 h3
end Go.Proofs.YtnhfofmhkfdpgaaGreatDoor.Vm
namespace Go.Proofs.YtnhfofmhkfdpgaaGreatDoor.Vm
open Go Go.RowKit
variable {N:Nat} {g:Glob}
structure NwI (S:St) (l:List Int) (v w:AV) (j:Nat) (LF:AFrame) (k:Nat) (S':St):Prop where
 next:S'.next=j + 1 + 1 + 1 + 1 + 1 + 1 + 1 + 1
 up:Up S S'
 lp:S'.obj (j + 1 + 1 + 1 + 1 + 1 + 1 + 1)=some (.loop 26 #[17,18] LF (rngA Tryz.f119 0) (rngB Tryz.f119 0) .ready)
 bv:S'.obj (j + 1 + 1 + 1 + 1 + 1 + 1)=some (.row 1 [[v]])
 bx:S'.obj (j + 1 + 1 + 1 + 1 + 1)=some (.row 1 [[.ptr (j + 1 + 1 + 1 + 1) 0 0]])
 bW:S'.obj (j + 1 + 1 + 1 + 1)=some (.row 4 [[w,.map j,.map (j + 1),.iface 245 (.ptr (j + 1 + 1 + 1) 0 0)]])
 bH:S'.obj (j + 1 + 1 + 1)=some (.row 1 [[.sl 1 (j + 1 + 1) 0 0]])
 bo:S'.obj (j + 1 + 1)=some (.row 1 [])
 bI:S'.obj (j + 1)=some (.map [])
 row:(w=.nilsl/\l=[]) \/ ∃ o,w=.sl 1 o 0 l.length/\o < j/\S'.obj o=some (.row 1 (els intc l))
 bA:∃ ea,S'.obj j=some (.map ea)/\KeysI ea/\∀(m:Nat) (x:Int),l.length - k<=m->l[m]?=some x->∃ m':Nat,findV (.int .i64 x) ea=some (some (.int .i64 (m':Int)))/\l[m']?=some x
theorem xLV {n:Nat} {ord:List Nat} {v:AV} {S:St} {K:AV->St->Prop} (hv:v=.fsl 1 (els natc ord)) (hp:ord.Perm (List.range n)) (hn:n<=128)
  (hk:∀S' W A I H ho ov,Wo n ord S' W A I H ho ov []->Up S S'->(S.next<=W/\S.next<=A/\S.next<=I/\S.next<=H/\S.next<=ho)->K (.ptr W 0 0) S'):Cal P g 119 [v] S K:=by
 have hol:ord.length=n:=by rw [hp.length_eq];simp
 obtain ⟨l,hl⟩:∃ l:List Int,l=ord.map fun k:Nat=>(k:Int):=⟨_,rfl⟩
 have hll:l.length=n:=by rw [hl];simp [hol]
 have hvl:FSl intc 1 v l:=by rw [hv,xEQ,<- hl];exact FSl.mk
 refine c119.in (by simp) ?_
 simp [k119]
 refine xCZ hvl (by omega) (Up.refl S) fun w S1 hw=>?_
 obtain ⟨w1,w2,w3⟩:=hw
 have hwo:w.one=true:=by rcases w1 with ⟨rfl,_⟩ | ⟨o,rfl,_⟩ <;> rfl
 simp [xDb hwo,hwo]
 refine xDG hvl.cells ?_
 simp
 refine W.rangeC (f:=226) (captured:=[.ptr (S1.next + 1 + 1 + 1 + 1 + 1 + 1) 0 0]) (by simp) ?_
 simp
 generalize hLF:(upd (upd (upd (upd (upd (upd (upd (upd (upd (upd (upd (upd (upd (entry [v]) 2 AV.nilptr) 6 v) 7 w) 8 (AV.map S1.next)) 9 (AV.map (S1.next + 1))) 10 (AV.sl 1 (S1.next + 1 + 1) 0 0)) 11 (AV.ptr (S1.next + 1 + 1 + 1) 0 0)) 12 (AV.iface 245 (AV.ptr (S1.next + 1 + 1 + 1) 0 0))) 13 (AV.agg [w,AV.map S1.next,AV.map (S1.next + 1),AV.iface 245 (AV.ptr (S1.next + 1 + 1 + 1) 0 0)])) 14 (AV.ptr (S1.next + 1 + 1 + 1 + 1) 0 0)) 3 (AV.ptr (S1.next + 1 + 1 + 1 + 1 + 1) 0 0)) 15 v) 16 (AV.func (Fn.func 226) [] [AV.ptr (S1.next + 1 + 1 + 1 + 1 + 1 + 1) 0 0]))=LF
 have lf3:LF 3=.ptr (S1.next + 1 + 1 + 1 + 1 + 1) 0 0:=by rw [<- hLF];simp
 have hw1:(w=.nilsl/\l=[]) \/ ∃ o,w=.sl 1 o 0 l.length/\S.next<=o/\o < S1.next/\S1.obj o=some (.row 1 (els intc l)):=by
  rcases w1 with h | ⟨o,rfl,h1,h2⟩
  ·exact .inl h
  ·exact .inr ⟨o,rfl,w3 o _ rfl,h1,h2⟩
 have hup:=w2.1
 have hup2:=w2.2
 refine xFs hvl (by omega) (NwI S l v w S1.next LF) ?_ ?_ ?_ ?_
 ·refine ⟨by simp,⟨by simp;omega,fun q hq=>?_⟩,by simp,by simp,by simp,by simp,by simp,by simp,by simp,?_,[],by simp [show ¬ S1.next=S1.next + 1 + 1 + 1 + 1 + 1 + 1 + 1 by omega,show ¬ S1.next=S1.next + 1 + 1 + 1 + 1 + 1 + 1 by omega,show ¬ S1.next=S1.next + 1 + 1 + 1 + 1 + 1 by omega,show ¬ S1.next=S1.next + 1 + 1 + 1 + 1 by omega,show ¬ S1.next=S1.next + 1 + 1 + 1 by omega,show ¬ S1.next=S1.next + 1 + 1 by omega],fun p hp=>by simp at hp,fun m x h1 h2=>?_⟩
  ·simp [show ¬ q=S1.next + 1 + 1 + 1 + 1 + 1 + 1 + 1 by omega,show ¬ q=S1.next + 1 + 1 + 1 + 1 + 1 + 1 by omega,show ¬ q=S1.next + 1 + 1 + 1 + 1 + 1 by omega,show ¬ q=S1.next + 1 + 1 + 1 + 1 by omega,show ¬ q=S1.next + 1 + 1 + 1 by omega,show ¬ q=S1.next + 1 + 1 by omega,show ¬ q=S1.next + 1 by omega,show ¬ q=S1.next by omega]
   exact hup2 q hq
  ·rcases hw1 with h | ⟨o,rfl,h0,h1,h2⟩
   ·exact .inl h
   ·refine .inr ⟨o,rfl,h1,?_⟩
    simp [show ¬ o=S1.next + 1 + 1 + 1 + 1 + 1 + 1 + 1 by omega,show ¬ o=S1.next + 1 + 1 + 1 + 1 + 1 + 1 by omega,show ¬ o=S1.next + 1 + 1 + 1 + 1 + 1 by omega,show ¬ o=S1.next + 1 + 1 + 1 + 1 by omega,show ¬ o=S1.next + 1 + 1 + 1 by omega,show ¬ o=S1.next + 1 + 1 by omega,show ¬ o=S1.next + 1 by omega,show ¬ o=S1.next by omega]
    exact h2
  ·have:=(xgS h2).1
   omega
 ·intro k S' h
  exact h.bv
 ·rintro k x S' hkl hx ⟨b1,b2,b3,b4,b5,b6,b7,b8,b9,b10,ea,b11,b12,b13⟩ K' hK'
  obtain ⟨ea',g1,g2,g3⟩:=b12.put x (.int .i64 ((l.length - 1 - k:Nat):Int))
  simp
  refine Yie.in b3 (by simp) (by simp) c119A0 c119B0 ?_
  have n5:¬ S1.next + 1 + 1 + 1 + 1 + 1=S1.next + 1 + 1 + 1 + 1 + 1 + 1 + 1:=by omega
  have n4:¬ S1.next + 1 + 1 + 1 + 1=S1.next + 1 + 1 + 1 + 1 + 1 + 1 + 1:=by omega
  have n0:¬ S1.next=S1.next + 1 + 1 + 1 + 1 + 1 + 1 + 1:=by omega
  simp [k119A0,k119B0,puts,lf3,b3,b5,b6,b11,n5,n4,n0,Ne.symm n0,g1]
  refine hK' _ ⟨by simp [b1],⟨by simp;exact b2.1,fun q hq=>?_⟩,by simp,?_,?_,?_,?_,?_,?_,?_,ea',by simp [n0],g2,fun m y h1 h2=>?_⟩
  ·simp [show ¬ q=S1.next + 1 + 1 + 1 + 1 + 1 + 1 + 1 by omega,show ¬ q=S1.next by omega]
   exact b2.2 q hq
  ·simp [show ¬ S1.next + 1 + 1 + 1 + 1 + 1 + 1=S1.next by omega,b4]
  ·simp [show ¬ S1.next + 1 + 1 + 1 + 1 + 1=S1.next by omega,n5,b5]
  ·simp [show ¬ S1.next + 1 + 1 + 1 + 1=S1.next by omega,n4,b6]
  ·simp [show ¬ S1.next + 1 + 1 + 1=S1.next by omega,show ¬ S1.next + 1 + 1 + 1=S1.next + 1 + 1 + 1 + 1 + 1 + 1 + 1 by omega,b7]
  ·simp [show ¬ S1.next + 1 + 1=S1.next by omega,show ¬ S1.next + 1 + 1=S1.next + 1 + 1 + 1 + 1 + 1 + 1 + 1 by omega,b8]
  ·simp [show ¬ S1.next + 1=S1.next + 1 + 1 + 1 + 1 + 1 + 1 + 1 by omega,b9]
  ·rcases b10 with h | ⟨o,rfl,h1,h2⟩
   ·exact .inl h
   ·exact .inr ⟨o,rfl,h1,by simp [show ¬ o=S1.next by omega,show ¬ o=S1.next + 1 + 1 + 1 + 1 + 1 + 1 + 1 by omega,h2]⟩
  ·rw [g3]
   by_cases hyx:y=x
   ·rw [if_pos hyx]
    exact ⟨l.length - 1 - k,rfl,by rw [hyx];exact hx⟩
   ·rw [if_neg hyx]
    refine b13 m y ?_ h2
    by_cases hm:m=l.length - 1 - k
    ·rw [hm,hx] at h2;cases h2;exact absurd rfl hyx
    ·omega
 ·rintro S' ⟨b1,b2,b3,b4,b5,b6,b7,b8,b9,b10,ea,b11,b12,b13⟩
  refine ⟨b3,?_⟩
  simp [b5]
  have hnt:∀j,¬ todo ord [] j:=fun j ⟨k,h,_⟩=>by simp at h
  refine hk (S'.drop (S1.next + 1 + 1 + 1 + 1 + 1 + 1 + 1)) (S1.next + 1 + 1 + 1 + 1) S1.next (S1.next + 1) (S1.next + 1 + 1 + 1) (S1.next + 1 + 1) w ⟨?_,⟨?_,?_,by omega,?_,?_⟩,⟨ea,?_,b12,fun i hi=>?_⟩,⟨[],?_,fun p hp=>by simp at hp,fun i hi=>.inl ⟨rfl,hnt i⟩⟩,⟨by omega,by omega,by omega,by omega,by omega,by omega,by omega,by omega,by omega⟩,⟨?_,?_,?_⟩,?_,hp,by simp,by simp⟩ ⟨?_,fun q hq=>?_⟩ ⟨by omega,by omega,by omega,by omega,by omega⟩
  ·simp [b6]
  ·simp [b7]
  ·simp [b8,els]
  ·simp [b1]
  ·simp [b1]
  ·simp [b11];omega
  ·have hip:i ∈ ord:=hp.mem_iff.2 (List.mem_range.2 hi)
   obtain ⟨m,hm,hme⟩:=List.mem_iff_getElem.1 hip
   have hlm:l[m]?=some (i:Int):=by rw [hl,List.getElem?_map,xgG hm,hme];rfl
   obtain ⟨m',h1,h2⟩:=b13 m _ (by omega) hlm
   refine ⟨m',h1,?_⟩
   rw [hl,List.getElem?_map] at h2
   cases ho:ord[m']? with
   | none=>rw [ho] at h2;cases h2
   | some z =>
    rw [ho] at h2
    simp at h2
    have:z=i:=by omega
    rw [this]
  ·simp [b9]
  ·simp [b1]
  ·simp [b1];omega
  ·simp [b1]
  ·rcases b10 with ⟨h1,h2⟩ | ⟨o,rfl,h1,h2⟩
   ·left
    rw [h2] at hll
    exact ⟨h1,List.length_eq_zero_iff.1 (by rw [hol];simpa using hll.symm)⟩
   ·refine .inr ⟨o,by rw [hll,hol],by simp [b1];omega,?_,by omega,by omega,by omega,by omega,by omega⟩
    simp [show ¬ o=S1.next + 1 + 1 + 1 + 1 + 1 + 1 + 1 by omega]
    rw [h2,xEQ,<- hl]
  ·simp;exact b2.1
  ·simp [show ¬ q=S1.next + 1 + 1 + 1 + 1 + 1 + 1 + 1 by omega]
   exact b2.2 q hq
theorem SetsRow.grown {S S':St} {v:AV} {l:List BSet} (h:SetsRow S v l) (hn:S.next<=S'.next) (hl:∀s ∈ l,s.ws ≠ [])
  (hk:∀q,q < S.next->((∃ c,v=.sl 2 q 0 c) \/ ∃ ws,ws ≠ []/\S.obj q=some (.row 1 (els u64c ws)))->S'.obj q=S.obj q):SetsRow S' v l:=by
 rcases h with h | ⟨o,es,rfl,ho,hob,hlen,hne,hes⟩
 ·exact .inl h
 ·refine .inr ⟨o,es,rfl,by omega,by rw [hk o ho (.inl ⟨_,rfl⟩)];exact hob,hlen,hne,fun i s hs=>?_⟩
  obtain ⟨w,hw,hr⟩:=hes i s hs
  refine ⟨w,hw,?_⟩
  rcases hr with hr | ⟨q,h1,rfl,h2⟩
  ·exact .inl hr
  ·exact .inr ⟨q,by omega,rfl,by rw [hk q h1 (.inr ⟨_,hl s (xmG hs),h2⟩)];exact h2⟩
theorem SetsRow.up {S S':St} {v:AV} {l:List BSet} (h:SetsRow S v l) (hu:Up S S') (hl:∀s ∈ l,s.ws ≠ []):SetsRow S' v l:=h.grown hu.1 hl fun q hq _=>hu.2 q hq
theorem SetsRow.at {S:St} {v:AV} {l:List BSet} (h:SetsRow S v l) {q c:Nat} (e:v=.sl 2 q 0 c):q < S.next/\∃ es,S.obj q=some (.row 2 es):=by
 rcases h with ⟨rfl,_⟩ | ⟨o,es,rfl,ho,hob,_⟩
 ·cases e
 ·cases e;exact ⟨ho,es,hob⟩
theorem SetsRow.pict {S:St} {v:AV} {l:List BSet} {n:Nat} (h:SetsRow S v l) (hok:∀s ∈ l,s.OK):Vm.pict S [] (n + 3) v=some (encF setc 2 l):=by
 rcases h with ⟨rfl,rfl⟩ | ⟨o,es,rfl,ho,hob,hlen,hne,hes⟩
 ·rfl
 ·have hel:elems S (.sl 2 o 0 l.length)=some es:=by rw [xCN hob (by omega),List.drop_zero,List.take_of_length_le (by omega)]
  rw [xEJ,hel]
  have:mapOpt (mapOpt (Vm.pict S [] (n + 2))) es=some (els setc l):=by
   have key:∀(es:List (List AV)) (l:List BSet),es.length=l.length->(∀s ∈ l,s.OK)->(∀(i:Nat) (s:BSet),l[i]?=some s->∃ w,es[i]?=some [.int .i64 s.n,w]/\IsRow S w s)->mapOpt (mapOpt (Vm.pict S [] (n + 2))) es=some (els setc l):=by
    intro es
    induction es with
    | nil=>intro l h _ _;cases l with
     | nil=>rfl
     | cons s l=>simp at h
    | cons e es ih =>
     intro l h hok hes
     cases l with
     | nil=>simp at h
     | cons s l =>
      obtain ⟨w,hw,hr⟩:=hes 0 s rfl
      simp at hw
      have h1:=ih l (by simpa using h) (fun t ht=>hok t (by simp [ht])) fun i t ht=>by simpa using hes (i + 1) t (by simpa using ht)
      have h2:=hr.pict (n:=n) (hok s (by simp))
      rw [hw]
      simp [mapOpt,h1,h2,els]
   exact key es l hlen hok hes
  simp only [Option.bind_some,this]
  simp [encF,hne]
def outc (b:Blk):List AV:=[b.outV]
theorem Has.up {α:Type} {e:α->List AV} {sz:Nat} {S S':St} {v:AV} {l:List α} (h:Has e sz S v l) (hb:Bel S v) (hu:Up S S'):Has e sz S' v l:=h.keep fun q ⟨c,e⟩=>hu.2 q (hb _ _ _ e)
theorem xVt (b:Blk):b.gen.ws ≠ []:=by
 intro h
 have:=b.gen_ok.1.len
 rw [h,b.gen_ok.2] at this
 simp [nw] at this
theorem xSW (b:Blk):b.kill.ws ≠ []:=by
 intro h
 have:=b.kill_ok.1.len
 rw [h,b.kill_ok.2] at this
 simp [nw] at this
structure Flo (S:St) (v1 v2 v3:AV) (l:List Blk):Prop where
 a:Has outc 1 S v1 l
 b:SetsRow S v2 (l.map Blk.gen)
 c:SetsRow S v3 (l.map Blk.kill)
 ba:Bel S v1
 la:∀sz q c,v1=.sl sz q 0 c->4<=q
 lb:∀sz q c,v2=.sl sz q 0 c->4<=q
 lc:∀sz q c,v3=.sl sz q 0 c->4<=q
 sep:∀q c d,v2=.sl 2 q 0 c->v3=.sl 2 q 0 d->False
theorem xGu (l:List Blk):∀s ∈ l.map Blk.gen,s.ws ≠ []:=by
 intro s hs
 rw [List.mem_map] at hs
 obtain ⟨b,_,rfl⟩:=hs
 exact xVt b
theorem xEl (l:List Blk):∀s ∈ l.map Blk.kill,s.ws ≠ []:=by
 intro s hs
 rw [List.mem_map] at hs
 obtain ⟨b,_,rfl⟩:=hs
 exact xSW b
theorem Flo.up {S S':St} {v1 v2 v3:AV} {l:List Blk} (h:Flo S v1 v2 v3 l) (hu:Up S S'):Flo S' v1 v2 v3 l :=
 ⟨h.a.up h.ba hu,h.b.up hu (xGu l),h.c.up hu (xEl l),h.ba.mono hu.1,h.la,h.lb,h.lc,h.sep⟩
def XR (bad:Nat->Prop) (S:St) (o:Nat) (x:List BSet):Prop:=∃ es,S.obj o=some (.row 2 es)/\es.length=x.length/\o < S.next/\∀(k:Nat) (s:BSet),x[k]?=some s->∃ q,es[k]?=some [.int .i64 6,.sl 1 q 0 1]/\q < S.next/\S.obj q=some (.row 1 (els u64c s.ws))/\¬ bad q
theorem XR.step {bad bad':Nat->Prop} {S S':St} {o:Nat} {x:List BSet} (h:XR bad S o x) (hn:S.next<=S'.next) (ho:S'.obj o=S.obj o) (hq:∀q,q < S.next->q ≠ o->¬ bad q->S'.obj q=S.obj q) (hb:∀q,q < S.next->bad' q->bad q):XR bad' S' o x:=by
 obtain ⟨es,h1,h2,h3,h4⟩:=h
 refine ⟨es,by rw [ho];exact h1,h2,by omega,fun k s hs=>?_⟩
 obtain ⟨q,k1,k2,k3,k4⟩:=h4 k s hs
 have hqo:q ≠ o:=fun e=>by rw [e,h1] at k3;cases k3
 exact ⟨q,k1,by omega,by rw [hq q k2 hqo k4];exact k3,fun h=>k4 (hb q k2 h)⟩
theorem XR.pict {bad:Nat->Prop} {S:St} {o:Nat} {x:List BSet} {m:Nat} (h:XR bad S o x) (hx:Good x):Vm.pict S [] (m + 3) (.sl 2 o 0 x.length)=some (.fsl 2 (els setc x)):=by
 obtain ⟨es,k1,k2,k3,k4⟩:=h
 refine xAr k1 k2 (by simp) fun k e he=>?_
 have hlt:=(xgS he).1
 obtain ⟨s,hs⟩:∃ s,x[k]?=some s:=⟨_,xgG (by omega)⟩
 obtain ⟨q,m1,m2,m3,m4⟩:=k4 k s hs
 rw [he] at m1;cases m1
 have hso:=hx s (xmG hs)
 have hl:s.ws.length=1:=by rw [hso.1.len,hso.2];rfl
 have hp:Vm.pict S [] (m + 2) (.sl 1 q 0 1)=some (.fsl 1 (els u64c s.ws)):=by
  refine xAr (es:=els u64c s.ws) m3 (by simp [hl]) (by simp [hl]) fun k e he=>?_
  rw [he]
  simp only [els,List.getElem?_map] at he
  cases hz:s.ws[k]? with
  | none=>rw [hz] at he;cases he
  | some x=>rw [hz] at he;cases he;simp [u64c]
 simp only [mapOpt,hp,xLE,xOn,hs]
 simp [hso.2]
theorem Wo.keep2 {n:Nat} {ord:List Nat} {S S':St} {W A I H ho:Nat} {ov:AV} {h:List Nat} {o:Nat} {es:List (List AV)} (hw:Wo n ord S W A I H ho ov h) (hob:S.obj o=some (.row 2 es)) (hn:S.next<=S'.next) (hq:∀q,q < S.next->q ≠ o->S'.obj q=S.obj q):Wo n ord S' W A I H ho ov h:=by
 obtain ⟨obj,hp,⟨ea,a1,a2,a3⟩,⟨ei,b1,b2,b3⟩,ids,⟨l1,l2,l3⟩,oo,pm,nd,hlt⟩:=hw
 have nW:W ≠ o:=fun e=>by rw [e,hob] at obj;cases obj
 have nA:A ≠ o:=fun e=>by rw [e,hob] at a1;cases a1
 have nI:I ≠ o:=fun e=>by rw [e,hob] at b1;cases b1
 have nH:H ≠ o:=fun e=>by have:=hp.box;rw [e,hob] at this;cases this
 have nh:ho ≠ o:=fun e=>by have:=hp.row;rw [e,hob] at this;cases this
 refine ⟨by rw [hq W l1 nW];exact obj,⟨by rw [hq H hp.lH nH];exact hp.box,by rw [hq ho hp.lo nh];exact hp.row,hp.ne,by have:=hp.lH;omega,by have:=hp.lo;omega⟩,⟨ea,by rw [hq A l2 nA];exact a1,a2,a3⟩,⟨ei,by rw [hq I l3 nI];exact b1,b2,b3⟩,ids,⟨by omega,by omega,by omega⟩,?_,pm,nd,hlt⟩
 rcases oo with h | ⟨q,rfl,o1,o2,o3⟩
 ·exact .inl h
 ·have nq:q ≠ o:=fun e=>by rw [e,hob] at o2;cases o2
  exact .inr ⟨q,rfl,by omega,by rw [hq q o1 nq];exact o2,o3⟩
def SolI (n q a:Nat) (S:St):Prop:=q < S.next/\q ≠ 0/\∃ es,S.obj q=some (.row 2 es)/\es.length=n/\(∀e ∈ es,e.length=2)/\∀k,k < a->∃ p,es[k]?=some [.int .i64 6,.sl 1 p 0 1]/\p < S.next/\S.obj p=some (.row 1 (els u64c (BSet.new 6).ws))
theorem SolI.step {n q a:Nat} {S:St} (h:SolI n q a S) (ha:a < n):∃ es,S.obj q=some (.row 2 es)/\es.length=n/\(∀e ∈ es,e.length=2) /\
  SolI n q (a + 1) ((S.new (.row 1 (els u64c (List.replicate (nw 6) 0)))).set q (.row 2 (es.set a [.int .i64 6,.sl 1 S.next 0 (nw 6)]))):=by
 obtain ⟨h1,h0,es,h2,h3,h5,h4⟩:=h
 refine ⟨es,h2,h3,h5,by simp;omega,h0,_,by simp;rfl,by simp [h3],fun e he=>?_,fun k hk=>?_⟩
 ·rcases List.mem_or_eq_of_mem_set he with h | rfl
  ·exact h5 e h
  ·rfl
 by_cases hka:k=a
 ·subst hka
  refine ⟨S.next,by rw [List.getElem?_set_self (by omega)];rfl,by simp,?_⟩
  simp [show ¬ S.next=q by omega];rfl
 ·obtain ⟨p,k1,k2,k3⟩:=h4 k (by omega)
  have hpq:¬ p=q:=fun e=>by rw [e,h2] at k3;cases k3
  exact ⟨p,by rw [List.getElem?_set_ne (Ne.symm hka)];exact k1,by simp;omega,by simp [hpq,show ¬ p=S.next by omega,k3]⟩
structure Flo3 (S:St) (v1 v2 v3:AV) (l1 l2 l3:List Blk):Prop where
 a:Has outc 1 S v1 l1
 b:SetsRow S v2 (l2.map Blk.gen)
 c:SetsRow S v3 (l3.map Blk.kill)
 ba:Bel S v1
 la:∀sz q c,v1=.sl sz q 0 c->4<=q
 lb:∀sz q c,v2=.sl sz q 0 c->4<=q
 lc:∀sz q c,v3=.sl sz q 0 c->4<=q
 sep:∀q c d,v2=.sl 2 q 0 c->v3=.sl 2 q 0 d->False
theorem Flo3.up {S S':St} {v1 v2 v3:AV} {l1 l2 l3:List Blk} (h:Flo3 S v1 v2 v3 l1 l2 l3) (hu:Up S S'):Flo3 S' v1 v2 v3 l1 l2 l3 :=
 ⟨h.a.up h.ba hu,h.b.up hu (xGu l2),h.c.up hu (xEl l3),h.ba.mono hu.1,h.la,h.lb,h.lc,h.sep⟩
structure FunOK (p:Prg) (f:Fun):Prop where
 vars:f.varsOK
 blks:f.blksOK
 msg:∀b ∈ f.blks,p.blkMsg f b=[]
theorem xKV {p:Prg} {i:Int} {f:Fun} (h:p.fn i=some f):p.sane=true/\0<=i/\p.funs[i.toNat]?=some f:=by
 unfold Prg.fn at h
 split at h
 ·rename_i hh;exact ⟨hh.2,hh.1,h⟩
 ·cases h
theorem xFu {p:Prg} {f:Fun}:∀{l:List Blk},firstMsg p f l=[]->∀b ∈ l,p.blkMsg f b=[]
 | [],_,b,hb=>by cases hb
 | c :: l,h,b,hb=>by
  rw [firstMsg] at h
  split at h
  ·rename_i hc
   rcases List.mem_cons.1 hb with rfl | hb
   ·exact hc
   ·exact xFu h b hb
  ·rename_i hc;exact absurd h hc
theorem sane_ok {p:Prg} (hs:p.sane=true) {f:Fun} (hf:f ∈ p.funs):FunOK p f:=by
 have h:=(Prg.sane_iff.1 hs).2.1 f hf
 unfold Prg.funMsg at h
 split at h
 ·cases h
 ·rename_i h1
  split at h
  ·cases h
  ·rename_i h2
   exact ⟨Decidable.not_not.1 h1,Decidable.not_not.1 h2,xFu h⟩
theorem xOY {p:Prg} {i:Int} {f:Fun} (h:p.fn i=some f):FunOK p f:=by
 obtain ⟨h1,_,h2⟩:=xKV h
 exact sane_ok h1 (xmG h2)
theorem FunOK.len {p:Prg} {f:Fun} (h:FunOK p f):0 < f.blks.length/\f.blks.length<=12:=⟨by have:=h.blks.1;omega,h.blks.2.1⟩
theorem FunOK.blk {p:Prg} {f:Fun} (h:FunOK p f) {b:Blk} (hb:b ∈ f.blks):(b.on=false->b.ins=[]/\b.out=[])/\rises b.out=true/\(∀j ∈ b.out,f.live j=true)/\b.ins.length<=16/\∀x ∈ b.ins,p.insOK f x=true:=by
 have hm:=h.msg b hb
 unfold Prg.blkMsg at hm
 split at hm
 ·cases hm
 ·rename_i h1
  split at hm
  ·cases hm
  ·rename_i h2
   split at hm
   ·cases hm
   ·rename_i h3
    refine ⟨fun ho=>?_,?_,fun j hj=>?_,by omega,fun x hx=>?_⟩
    ·have:¬ 0 < b.ins.length + b.out.length:=fun h=>h1 ⟨ho,h⟩
     exact ⟨List.length_eq_zero_iff.1 (by omega),List.length_eq_zero_iff.1 (by omega)⟩
    ·cases hr:rises b.out
     ·exact absurd (.inl hr) h2
     ·rfl
    ·cases hl:f.live j
     ·exact absurd (.inr (List.any_eq_true.2 ⟨j,hj,by simp [hl]⟩)) h2
     ·rfl
    ·cases hl:p.insOK f x
     ·exact absurd (.inr (List.any_eq_true.2 ⟨x,hx,by simp [hl]⟩)) h3
     ·rfl
theorem xCP {f:Fun} {j:Int} (h:f.live j=true):0<=j/\j < f.blks.length/\∃ b,f.blks[j.toNat]?=some b/\b.on=true:=by
 simp only [Fun.live,Bool.and_eq_true,decide_eq_true_eq] at h
 obtain ⟨h0,h1⟩:=h
 cases hb:f.blks[j.toNat]? with
 | none=>rw [hb] at h1;cases h1
 | some b =>
  rw [hb] at h1
  have:=(xgS hb).1
  exact ⟨h0,by omega,b,rfl,h1⟩
theorem xQ0 {l:List Int} (h:rises l=true) {lo:Int} (hlo:∀x ∈ l,lo<=x):∀(k:Nat) (x:Int),l[k]?=some x->lo + k<=x:=by
 have hr:risesTo l l.length:=by simpa [rises] using h
 intro k
 induction k with
 | zero=>intro x hx;have:=hlo x (xmG hx);omega
 | succ k ih =>
  intro x hx
  have hlt:=(xgS hx).1
  have h1:=hr k l[k] x (by omega) (xgG (by omega)) hx
  have:=ih l[k] (xgG (by omega))
  omega
theorem FunOK.out {p:Prg} {f:Fun} (h:FunOK p f):∀b ∈ f.blks,b.out.length < 64/\∀j ∈ b.out,0<=j/\j < f.blks.length:=by
 intro b hb
 obtain ⟨_,h1,h2,_⟩:=h.blk hb
 have h3:∀j ∈ b.out,0<=j/\j < f.blks.length:=fun j hj=>⟨(xCP (h2 j hj)).1,(xCP (h2 j hj)).2.1⟩
 refine ⟨?_,h3⟩
 have hl:=h.len.2
 cases hz:b.out.length with
 | zero=>omega
 | succ k =>
  have h4:=xQ0 h1 (lo:=0) (fun x hx=>(h3 x hx).1) k b.out[k] (xgG (by omega))
  have h5:=(h3 b.out[k] (List.getElem_mem _)).2
  omega
theorem xAN {α:Type} {e:α->List AV} {sz:Nat} {v:AV} {l:List α} (h:FSl e sz v l):v.one=true:=by
 rcases h with rfl | ⟨rfl,_⟩ <;> rfl
theorem FSl.from {α:Type} {e:α->List AV} {sz:Nat} {v:AV} {l:List α} (h:FSl e sz v l) {k:Nat} (hk:k<=l.length):∃ v',pk (.slice sz true false false) [v,.int .i64 (k:Int)]=some v'/\FSl e sz v' (l.drop k):=by
 rcases h with rfl | ⟨rfl,rfl⟩
 ·refine ⟨.fsl sz (els e (l.drop k)),?_,.inl rfl⟩
  simp [pk,bnds,hk,els,List.take_of_length_le]
 ·refine ⟨.nilsl,?_,.inr ⟨rfl,by simp⟩⟩
  have:k=0:=by simpa using hk
  subst this
  simp [pk,bnds]
noncomputable def Fun.at (f:Fun) (b:Blk) (k:Nat):BSet:=(b.ins.drop k).foldr Ins.live (bigOr (sol f.blks) b.out)
noncomputable def Prg.at (p:Prg) (i j k:Int):BSet:=match p.fn i with
 | none=>BSet.new 6
 | some f=>match f.blk j with
  | none=>BSet.new 6
  | some b=>if 0<=k/\k<=b.ins.length then f.at b k.toNat else BSet.new 6
theorem xDq {p:Prg} {f:Fun} {i:Ins} (h1:i.ok=true) (h2:∀x ∈ i.uses,x < f.vars) (h3:i.def < f.vars) (h4:i.kind ≠ 7):p.insOK f i=true:=by
 have hv:(i.vars.any fun x=>decide (f.vars<=x))=false:=by
  rw [List.any_eq_false]
  intro x hx
  rw [xFJ] at hx
  rcases hx with hx | ⟨_,rfl⟩
  ·have:=h2 x hx;simp;omega
  ·simp;omega
 simp [Prg.insOK,h1,hv,h4]
theorem xLY:∀(l out:List Int) (x:Int),x ∈ l.foldl addOnce out->x ∈ out \/ x ∈ l
 | [],out,x,h=>.inl h
 | y :: l,out,x,h=>by
  rcases xLY l (addOnce out y) x h with h | h
  ·unfold addOnce at h
   split at h
   ·exact .inl h
   ·rcases List.mem_append.1 h with h | h
    ·exact .inl h
    ·exact .inr (by simp at h;simp [h])
  ·exact .inr (by simp [h])
theorem xVB {i:Ins} {x:Int} (h:x ∈ i.uses):0<=x:=by
 unfold Ins.uses at h
 split at h
 ·rename_i hok
  have hp:i.okP:=by simpa [Ins.ok] using hok
  rcases xLY i.all [] x h with h | h
  ·cases h
  ·obtain ⟨_,_,_,_,_,_,_,_,ha,hb,_,h0,h1,h2,_⟩:=hp
   unfold Ins.all at h
   rcases List.mem_append.1 h with h | h
   ·rcases List.mem_append.1 h with h | h
    ·split at h
     ·simp at h;omega
     ·cases h
    ·split at h
     ·simp at h;omega
     ·cases h
   ·have:=List.mem_of_mem_take h
    simp at this
    omega
 ·cases h
theorem xIu {p:Prg} {f:Fun} {i:Ins} (h:p.insOK f i=true):(∀x ∈ i.uses,0<=x/\x < f.vars)/\(i.def=-1 \/ (0<=i.def/\i.def < f.vars)):=by
 simp only [Prg.insOK,Bool.and_eq_true,Bool.not_eq_true',List.any_eq_false,decide_eq_true_eq] at h
 obtain ⟨⟨h1,h2⟩,_⟩:=h
 refine ⟨fun x hx=>⟨xVB hx,?_⟩,?_⟩
 ·have:=h2 x ((xFJ i x).2 (.inl hx))
  omega
 ·by_cases hd:i.def=-1
  ·exact .inl hd
  ·refine .inr ⟨?_,?_⟩
   ·have hp:i.okP:=by simpa [Ins.ok] using h1
    have:=hp.2.2.2.2.2.2.2.1
    unfold Ins.def at hd ⊢
    split
    ·exact this
    ·rename_i hh;rw [if_neg hh] at hd;exact absurd rfl hd
   ·have:=h2 i.def ((xFJ i i.def).2 (.inr ⟨hd,rfl⟩))
    omega
theorem xVC {f:Fun} {j:Int} {b:Blk} (h:f.blk j=some b):∃ n:Nat,j=(n:Int)/\f.blks[n]?=some b/\b.on=true:=by
 unfold Fun.blk at h
 split at h
 ·rename_i hl
  obtain ⟨h0,_,b',hb',hon⟩:=xCP hl
  rw [h] at hb';cases hb'
  exact ⟨j.toNat,by omega,h,hon⟩
 ·cases h
end Go.Proofs.YtnhfofmhkfdpgaaGreatDoor.Vm
