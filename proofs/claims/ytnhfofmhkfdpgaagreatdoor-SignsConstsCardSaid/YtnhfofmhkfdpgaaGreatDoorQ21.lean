/- A part of the proof: Gi Gj Gk Gl Gm Gn. -/
import Derived.Test.YtnhfofmhkfdpgaaGreatDoorQ20
set_option linter.unusedVariables false
set_option linter.unusedSimpArgs false
set_option linter.constructorNameAsVariable false
namespace Go.Proofs.YtnhfofmhkfdpgaaGreatDoor.Vm
open Go Go.RowKit
variable {N:Nat} {g:Glob}
theorem bits_Mul (x y:Nat) (hx:x < 2 ^ 64) (hy:y < 2 ^ 64):Ret P g false 131 [.int .u64 (x:Int),.int .u64 (y:Int)] (.tuple [.int .u64 ((x * y / 18446744073709551616:Nat):Int),.int .u64 ((x * y % 18446744073709551616:Nat):Int)]):=by
 refine ⟨c131.call,?_⟩
 intro w av vs xs hG hvs hz
 subst hz
 cases hvs with
 | cons v z vs xs hv hvs =>
 cases hvs with
 | cons v' z' vs xs hv' hvs =>
 cases hvs
 have:=hv.int_inv;subst this
 have:=hv'.int_inv;subst this
 refine Calls.mono (Tryz.bits_Mul x y (by omega) (by omega) w) ?_
 rintro e w' ⟨rfl,rfl⟩
 refine ⟨_,.tuple [.int .u64 _,.int .u64 _],St.empty,fun _=>none,rfl,⟨⟨2,rfl⟩,fun h=>by cases h⟩,Below.refl _ _,?_,.tuple [.int .u64 _,.int .u64 _] _ (.cons _ _ _ _ (.int _ _) (.cons _ _ _ _ (.int _ _) .nil))⟩
 refine ⟨?_,?_,?_,?_,?_,yAC _⟩
 ·intro o x h;cases h
 ·intro o o' l l' x x' h;cases h
 ·intro o x h;cases h
 ·intro o l h;cases h
 ·intro o x l h;cases h
theorem xCt (x:Int) (n:Nat) (hn:n < 2 ^ 30):Own P g 87 [.fsl 1 [[.int .i64 x]],.int .i64 (n:Int)] (.sl 1 0 0 n) (St.ofL [.row 1 (els intc (List.replicate n x))]):=by
 refine Own.in [0] c87 (by simp) (by simp) ?_
 have hroom:n≤room:=by simp [room];omega
 have e1:IntKind.u64.wrap (1:Int)=((1:Nat):Int):=rfl
 have e2:IntKind.u64.wrap (n:Int)=n:=xCd (by omega)
 have e3:n % 18446744073709551616=n:=by omega
 have e4:n / 18446744073709551616=0:=by omega
 have e5:IntKind.i64.wrap (n:Int)=n:=xAa (by omega)
 simp [k87,e1,e2]
 refine (bits_Mul 1 n (by omega) (by omega)).use (n:=9) ?_ rfl ?_ <;> simp [e3,e4]
 refine xAj (fun h=>absurd h (by omega)) (fun h=>?_)
 simp [e5,hroom]
 refine W.whileI (fun (m:Nat) F S=>m≤n∧(m=0→n=0)∧F 7=.sl 1 0 0 n∧F 8=.int .i64 m∧S.obj 0=some (.row 1 (els intc (List.replicate m x ++ List.replicate (n - m) 0)))) (fun m=>n - m) ?_ (min 1 n) _ _ ?_
 ·rintro m F S ⟨hm,hm0,h7,h8,ho⟩
  by_cases hlt:m < n
  ·have hmp:0 < m:=by omega
   simp [h7,h8,hlt]
   refine Dra.auto [] mix ?_ ?_
   ·kernel_rfl
   have hys:List.take m (els intc (List.replicate m x ++ List.replicate (n - m) 0))=els intc (List.replicate m x):=by rw [xAs,List.take_left' (by simp)]
   have hok:okAll 1 (els intc (List.replicate m x)):=xHz
   have e6:IntKind.i64.wrap ((m:Int) + (min m (n - m):Nat))=((m + min m (n - m):Nat):Int):=by rw [xAa (by omega)];omega
   simp [classes,h7,h8,hlt,xEy hm,xII hm,ho,show ¬ m=0 by omega,hys,hok]
   refine ⟨m + min m (n - m),by omega,by omega,by omega,e6,?_⟩
   rw [xAs,xKT,xBd,xBd,List.take_replicate,List.drop_append,List.drop_of_length_le (by simp),List.drop_replicate,List.nil_append,← yAr,List.replicate_append_replicate]
   congr 3
   ·omega
   ·simp;omega
  ·have:m=n:=by omega
   subst this
   simp [h7,h8]
   refine ⟨by simp,?_⟩
   simp [ho]
 ·simp
  refine ⟨by omega,?_⟩
  rcases n with _ | n
  ·simp [els]
  ·simp [els,intc]
theorem xFZ {v:AV} {l:List Int} (hv:FSl intc 1 v l) (hl:l.length < 2 ^ 30) (n:Nat) (hn:n < 2 ^ 30):RetE P g false 174 [v,.int .i64 (n:Int)] (fun y=>∃ r:List Int,y=.fsl 1 (els intc r)∧r.length=n):=by
 refine RetE.in c174 (by simp) ?_
 simp [k174]
 refine (xCt (-1) n hn).use' (n:=9) ?_ ?_ ?_ <;> simp
 refine xDt hv.cells ?_
 simp
 refine W.rangeC (f:=226) (captured:=[.ptr 3 0 0]) (by simp) ?_
 simp
 generalize hLF:upd (upd (upd (upd (upd (upd (upd (entry [v,AV.int IntKind.i64 n]) 4 AV.nilsl) 8 (AV.sl 1 0 0 1)) 9 (AV.int IntKind.i64 n)) 10 (AV.sl 1 1 0 n)) 5 (AV.ptr 2 0 0)) 11 v) 12 (AV.func (Fn.func 226) [] [AV.ptr 3 0 0])=LF
 have lf5:LF 5=.ptr 2 0 0:=by rw [← hLF];simp
 refine xE9 hv (by omega) (fun k S'=>S'.obj 4=some (.loop 28 #[13,14] LF (rngA Tryz.f174 0) (rngB Tryz.f174 0) .ready)∧S'.obj 2=some (.row 1 [[.sl 1 1 0 n]])∧S'.obj 3=some (.row 1 [[v]])∧∃ r:List Int,r.length=n∧S'.obj 1=some (.row 1 (els intc r))) ?_ ?_ ?_ ?_
 ·refine ⟨?_,?_,?_,List.replicate n (-1),?_,?_⟩ <;> simp
 ·rintro k S' ⟨_,_,h,_⟩
  exact h
 ·rintro k x S' hkl hx ⟨q4,q2,q3,r,hr,q1⟩ K' hK'
  simp
  refine Yie.in q4 (by simp) (by simp) c174A0 c174B0 ?_
  simp [k174A0,k174B0,puts,lf5,q2,q4]
  by_cases hx1:(0:Int)≤x
  ·by_cases hx2:x < (n:Int)
   ·obtain ⟨b,rfl⟩:∃ b:Nat,x=(b:Int):=⟨x.toNat,by omega⟩
    have hb:b < n:=by omega
    obtain ⟨y,hy⟩:∃ y,r[b]?=some y:=⟨_,xgG (by omega)⟩
    simp [hb,q2,q1,q4,lf5,xAd hb,hy,intc]
    refine hK' _ ⟨by simp,by simp [q2],by simp [q3],r.set b ((l.length - 1 - k:Nat):Int),by simp [hr],?_⟩
    simp
    rw [← xAg];rfl
   ·simp [hx1,hx2,q2,q4,lf5]
    refine hK' _ ⟨by simp,by simp [q2],by simp [q3],r,hr,by simp [q1]⟩
  ·simp [hx1,q2,q4]
   refine hK' _ ⟨by simp,by simp [q2],by simp [q3],r,hr,by simp [q1]⟩
 ·rintro S' ⟨q4,q2,q3,r,hr,q1⟩
  refine ⟨q4,?_⟩
  simp [q2]
  refine ⟨_,⟨r,rfl,hr⟩,2,?_⟩
  rw [← hr]
  refine xAz (es:=els intc r) (by simp [q1]) (by simp) (by simp) fun k e he=>?_
  rw [he]
  simp only [els,yAN] at he
  cases hz:r[k]? with
  | none=>rw [hz] at he;cases he
  | some z=>rw [hz] at he;cases he;simp [intc]
def stepc (p:Nat × Nat):List AV:=[.int .i64 (p.1:Int),.int .i64 (p.2:Int)]
theorem xHL {l:List Bool} {i:Nat} (h:l[i]?=some false):(l.set i true).count false + 1=l.count false:=by
 induction l generalizing i with
 | nil=>simp at h
 | cons a l ih =>
  cases i with
  | zero=>simp at h;subst h;simp
  | succ i =>
   have:=ih (i:=i) (by simpa using h)
   simp only [List.set_cons_succ,List.count_cons]
   omega
theorem xHM {α:Type} (l:List α) (x:α) (y:α):(l ++ [x]).set l.length y=l ++ [y]:=by simp
theorem xL5 {v yf:AV} {G:List (List Int)} {S:St} {K:AV→St→Prop} (a0:Nat) (hv:GrV v G) (hn:G.length≤128) (hin:∀l ∈ G,l.length < 1048576∧∀x ∈ l,0≤x∧x < G.length) (hyc:yf.cells=[yf])
  (Inv:Nat→(Nat→Prop)→St→Prop) (C0:Nat→Prop) (h0:Inv 0 C0 S)
  (hlt:∀k C S',Inv k C S'→∀o,C o→o < S'.next)
  (hstab:∀k C S' S'',Inv k C S'→S'.next≤S''.next→(∀o,C o→S''.obj o=S'.obj o)→Inv k C S'')
  (hst:∀k C (x:Nat) S',x < G.length→k < G.length→Inv k C S'→∀K':AV→St→Prop,(∀C' S'',Inv (k + 1) C' S''→S'.next≤S''.next→(∀o,o < S'.next→¬ C o→S''.obj o=S'.obj o)→(∀o,C' o→C o ∨ S'.next≤o)→K' (.tuple []) S'')→CalV P g yf [.int .i64 (x:Int)] S' K')
  (hk:∀k C S',k≤G.length→Inv k C S'→S.next≤S'.next→(∀o,o < S.next→¬ C0 o→S'.obj o=S.obj o)→K (.tuple []) S'):Cal P g 54 [v,.int .i64 (a0:Int),yf] S K:=by
 refine c54.in (by simp) ?_
 simp [k54]
 refine (xHK hv.len hv.stab (a0:Int)).use (n:=9) ?_ rfl ?_ <;> simp [xAc hv.stab]
 by_cases ha:a0 < G.length
 ·have e1:inGr G.length (a0:Int)=true:=by simp [inGr,ha]
  have hroom:G.length≤room:=by simp [room];omega
  simp [e1,hv.len,hroom,xAd ha]
  have hg:(List.replicate G.length [AV.bool false])[a0]?=some [AV.bool false]:=by simp [ha]
  simp [hg]
  refine W.whileF (fun (a:List Bool × List (Nat × Nat)) F S'=>∃ (k:Nat) (C:Nat→Prop) (wo:Nat),F 0=v∧F 2=yf∧F 6=.sl 1 S.next 0 G.length∧F 7=.sl 2 wo 0 a.2.length∧S'.obj S.next=some (.row 1 (els boolc a.1))∧a.1.length=G.length ∧
   S'.obj wo=some (.row 2 (els stepc a.2))∧wo < S'.next∧S.next < wo∧¬ C S.next∧¬ C wo∧Inv k C S'∧(∀o,o < S.next→¬ C0 o→S'.obj o=S.obj o)∧(∀o,C o→C0 o ∨ S.next≤o)∧(∀p ∈ a.2,p.1 < G.length)∧k + a.2.length + a.1.count false=G.length)
   (fun a=>2 * a.1.count false + a.2.length) ?_ ((List.replicate G.length false).set a0 true,[(a0,0)]) _ _ ?_
  ·rintro ⟨met,way⟩ F S' ⟨k,C,wo,h0',h2,h6,h7,hmo,hml,hwo,hwl,hwn,hCm,hCw,hI,hfr,hCC,hway,hcnt⟩
   simp only at h7 hmo hml hwo hway hcnt
   by_cases hw0:way=[]
   ·subst hw0
    simp [h7]
    exact hk k C S' (by simp at hcnt;omega) hI (by omega) hfr
   ·obtain ⟨pre,⟨a,nx⟩,rfl⟩:∃ pre p,way=pre ++ [p]:=⟨way.dropLast,way.getLast hw0,(List.dropLast_concat_getLast hw0).symm⟩
    have han:a < G.length:=hway (a,nx) (by simp)
    obtain ⟨l,hl⟩:∃ l,G[a]?=some l:=⟨_,xgG han⟩
    obtain ⟨w,hw,hix⟩:=hv.idx hl
    obtain ⟨hll,hlx⟩:=hin l (xmG hl)
    have hpre:pre.length < 128:=by simp at hcnt;omega
    have e5:IntKind.i64.wrap (pre.length:Int)=(pre.length:Int):=xAa (by omega)
    have hixp:pk (PK.indexAddr 2) [AV.sl 2 wo 0 (pre.length + 1),AV.int IntKind.i64 (pre.length:Int)]=some (.ptr wo (0 + pre.length) 0):=xAd (by omega)
    simp [h7,e5,hixp]
    refine W.whileI (fun (nx:Nat) F S2=>F 0=v∧F 2=yf∧F 6=.sl 1 S.next 0 G.length∧F 7=.sl 2 wo 0 (pre.length + 1)∧F 8=.ptr wo pre.length 0∧S2.obj wo=some (.row 2 (els stepc (pre ++ [(a,nx)])))∧S2.next=S'.next∧∀o,o ≠ wo→S2.obj o=S'.obj o) (fun nx=>l.length - nx) ?_ nx _ _ ?_
    ·rintro nx F S2 ⟨h0',h2,h6,h7,h8,hwo,hnx,hoth⟩
     have hget:(els stepc (pre ++ [(a,nx)]))[pre.length]?=some [.int .i64 (a:Int),.int .i64 (nx:Int)]:=by simp [els,stepc]
     have hget2:∀h:pre.length < (els stepc (pre ++ [(a,nx)])).length,(els stepc (pre ++ [(a,nx)]))[pre.length]=[.int .i64 (a:Int),.int .i64 (nx:Int)]:=fun h=>by simp [els,stepc]
     have hmo2:S2.obj S.next=some (.row 1 (els boolc met)):=by rw [hoth _ (by omega)];exact hmo
     simp
     refine Dra.auto [] mix ?_ ?_
     ·kernel_rfl
     simp [classes,h0',h8,hwo,hget,hget2,hix,hw.len]
     by_cases hlt':nx < l.length
     ·obtain ⟨x,hx⟩:∃ x,l[nx]?=some x:=⟨_,xgG hlt'⟩
      have hxx:=hlx x (xmG hx)
      obtain ⟨b,rfl⟩:∃ b:Nat,x=(b:Int):=⟨x.toNat,by omega⟩
      have hbn:b < G.length:=by omega
      have e4:=wrapS nx (by omega)
      obtain ⟨mb,hmb⟩:∃ y,met[b]?=some y:=⟨_,xgG (by omega)⟩
      simp [hlt']
      refine Dra.auto [] mix ?_ ?_
      ·kernel_rfl
      simp [classes,h0',h8,hwo,hget,hget2,hix,hw.idx hx,intc]
      simp [h6,xAd hbn,hmo2,hmb,boolc]
      have hwo1:¬ wo=S.next:=by omega
      have hwo1':¬ S.next=wo:=by omega
      cases mb
      ·have hroom2:pre.length + 1 + 1≤room:=by simp [room];omega
       have hr0:¬ room=0:=by simp [room]
       have hwn2:¬ wo=S2.next:=by omega
       have hSn2:¬ S.next=S2.next:=by omega
       simp [h6,h7,xAd hbn,hmo2,hmb,boolc,hwo,hwo1,hwo1',hwn2,hSn2,hroom2,hr0]
       have hcs:=xHL hmb
       refine ⟨met.set b true,pre ++ [(a,nx)] ++ [(b,0)],?_,_,Wk.refl _,h0',h2,k,C,S2.next + 1,⟨rfl,by simp⟩,?_,by simp [hml],?_,?_,?_,hCm,?_,?_,?_,hCC,?_,?_⟩
       ·simp;omega
       ·simp [hwo1',hSn2,show ¬ S.next=S2.next + 1 by omega]
        rw [← xAg];rfl
       ·simp
        rw [yAI (by simp)]
        simp [els,stepc]
       ·simp
       ·omega
       ·intro h
        have:=hlt k C S' hI _ h
        omega
       ·refine hstab k C S' _ hI (by simp;omega) fun o ho=>?_
        have h1:¬ o=wo:=fun e=>hCw (e ▸ ho)
        have h2:¬ o=S.next:=fun e=>hCm (e ▸ ho)
        have h3:=hlt k C S' hI o ho
        simp [h1,h2,show ¬ o=S2.next + 1 by omega,show ¬ o=S2.next by omega]
        exact hoth o h1
       ·intro o ho hc0
        simp [show ¬ o=wo by omega,show ¬ o=S.next by omega,show ¬ o=S2.next + 1 by omega,show ¬ o=S2.next by omega]
        rw [hoth o (by omega)]
        exact hfr o ho hc0
       ·intro p q hp
        simp only [yAQ,yAO,yAM] at hp
        rcases hp with (hp | ⟨rfl,_⟩) | ⟨rfl,_⟩
        ·exact hway (p,q) (by simp [hp])
        ·exact han
        ·exact hbn
       ·simp at hcnt ⊢;omega
      ·simp [h8,hwo,hget,hget2,h0',h2,h6,h7,e4]
       refine ⟨nx + 1,by omega,?_,hnx,fun o ho=>by simp [ho];exact hoth o ho⟩
       rw [show [AV.int IntKind.i64 (a:Int),AV.int IntKind.i64 ((nx:Int) + 1)]=stepc (a,nx + 1) by simp [stepc],xAg,xHM]
     ·simp [hlt',h8,hwo,hget,hget2,h2]
      refine hst k C a S2 han (by simp at hcnt;omega) (hstab k C S' S2 hI (by omega) fun o ho=>hoth o fun e=>hCw (e ▸ ho)) _ ?_
      intro C' S3 hI3 hn3 hk3 hC3
      simp [h7,e5,h0',h2,h6,xII (show pre.length≤pre.length + 1 by omega)]
      have hwo3:S3.obj wo=some (.row 2 (els stepc (pre ++ [(a,nx)]))):=by rw [hk3 wo (by omega) hCw];exact hwo
      have hcut:=Wk.cut pre.length hwo3
      rw [xAs,List.take_left' rfl] at hcut
      have hC1:¬ C' S.next:=fun h=>by
       rcases hC3 _ h with h | h
       ·exact hCm h
       ·omega
      have hC2:¬ C' wo:=fun h=>by
       rcases hC3 _ h with h | h
       ·exact hCw h
       ·omega
      refine ⟨met,pre,by omega,_,hcut,k + 1,C',wo,⟨rfl,rfl⟩,?_,hml,by simp,by simp;omega,hwn,hC1,hC2,?_,?_,?_,?_,?_⟩
      ·simp [show ¬ S.next=wo by omega]
       rw [hk3 _ (by omega) hCm];exact hmo2
      ·refine hstab (k + 1) C' S3 _ hI3 (by simp) fun o ho=>?_
       have h1:¬ o=wo:=fun e=>hC2 (e ▸ ho)
       simp [h1]
      ·intro o ho hc0
       simp [show ¬ o=wo by omega]
       rw [hk3 o (by omega) fun h=>by
        rcases hCC o h with h | h
        ·exact hc0 h
        ·omega]
       rw [hoth o (by omega)]
       exact hfr o ho hc0
      ·intro o ho
       rcases hC3 o ho with h | h
       ·exact hCC o h
       ·exact .inr (by omega)
      ·intro p q hp
       exact hway (p,q) (by simp [hp])
      ·simp at hcnt;omega
    ·simp
     exact ⟨h0',h2,h6,by simpa using h7,hwo⟩
  ·refine ⟨0,C0,S.next + 1,?_⟩
   have hcs:=xHL (l:=List.replicate G.length false) (i:=a0) (by simp [ha])
   simp at hcs
   simp [hyc]
   refine ⟨?_,by simp [els,stepc],fun h=>?_,fun h=>?_,?_,?_,fun o h=>.inl h,ha,by omega⟩
   ·show (List.replicate G.length (boolc false)).set a0 (boolc true)=_
    rw [xAh,xAg]
   ·have:=hlt 0 C0 S h0 _ h;omega
   ·have:=hlt 0 C0 S h0 _ h;omega
   ·refine hstab 0 C0 S _ h0 (by simp;omega) fun o ho=>?_
    have:=hlt 0 C0 S h0 o ho
    simp [show ¬ o=S.next + 1 by omega,show ¬ o=S.next by omega]
   ·intro o ho _
    simp [show ¬ o=S.next + 1 by omega,show ¬ o=S.next by omega]
 ·have e1:inGr G.length (a0:Int)=false:=by simp [inGr];omega
  simp [e1]
  exact hk 0 C0 S (by omega) h0 (yAC _) (fun _ _ _=>rfl)
theorem xD6 {l:List Int} {o:Nat} {S:St} {K:AV→St→Prop} (ho:S.obj o=some (.row 1 (els intc l))) (hl:l.length < 2 ^ 40) (hk:∀l':List Int,l'.length=l.length→K (.tuple []) (S.set o (.row 1 (els intc l')))) :
  Cal P g 230 [.sl 1 o 0 l.length] S K:=by
 refine c230.in (by simp) ?_
 have e0:IntKind.i64.wrap ((l.length:Int) - 1)=(l.length:Int) - 1:=xAa (by omega)
 simp [k230,e0]
 refine W.whileI (fun (k:Nat) F S'=>k≤l.length∧F 0=.sl 1 o 0 l.length∧F 2=.int .i64 k∧F 3=.int .i64 ((l.length:Int) - 1 - k)∧∃ l':List Int,l'.length=l.length∧S'=S.set o (.row 1 (els intc l'))) (fun k=>l.length - k) ?_ 0 _ _ ?_
 ·rintro k F S' ⟨hkl,h0,h2,h3,l',hl',rfl⟩
  by_cases hlt:(k:Int) < (l.length:Int) - 1 - k
  ·have hk1:k < l.length:=by omega
   have hk2:l.length - 1 - k < l.length:=by omega
   have e1:(l.length:Int) - 1 - k=((l.length - 1 - k:Nat):Int):=by omega
   rw [e1] at h3
   have hlt':k < l.length - 1 - k:=by omega
   obtain ⟨x,hx⟩:∃ x,l'[k]?=some x:=⟨_,xgG (by omega)⟩
   obtain ⟨y,hy⟩:∃ y,l'[l.length - 1 - k]?=some y:=⟨_,xgG (by omega)⟩
   have e4:=wrapS k (by omega)
   have e5:IntKind.i64.wrap (((l.length - 1 - k:Nat):Int) - 1)=(l.length:Int) - 1 - (k + 1:Nat):=by rw [xAa (by omega)];omega
   simp [h2,h3,hlt']
   refine Dra.auto [] mix ?_ ?_
   ·kernel_rfl
   simp [classes,h0,h2,h3,xAd hk1,xAd hk2,hx,hy,intc,show ¬ k=l.length - 1 - k by omega,e4,e5]
   refine ⟨k + 1,by omega,by omega,by omega,(l'.set k y).set (l.length - 1 - k) x,by simp [hl'],?_⟩
   rw [xAk,xAk,← xAg,← xAg];rfl
  ·simp [h2,h3,hlt]
   exact hk l' hl'
 ·simp
  exact ⟨l,rfl,(St.set_same ho).symm⟩
theorem xD7 {S:St} {K:AV→St→Prop} (hk:K (.tuple []) S):Cal P g 230 [.nilsl] S K:=by
 refine c230.in (by simp) ?_
 have e0:IntKind.i64.wrap (-1)=-1:=rfl
 simp [k230,e0]
 refine W.whileI (fun (k:Nat) F S'=>F 2=.int .i64 0∧F 3=.int .i64 (-1)∧S'=S) (fun k=>0) ?_ 0 _ _ ?_
 ·rintro k F S' ⟨h2,h3,rfl⟩
  simp [h2,h3]
  exact hk
 ·simp
def OrdI (k:Nat) (C:Nat→Prop) (S:St):Prop:=∃ (v:AV) (l:List Int),l.length=k∧S.obj 0=some (.row 1 [[v]])∧0 < S.next∧C 0∧((v=.nilsl∧l=[]) ∨ ∃ o,v=.sl 1 o 0 l.length∧0 < o∧o < S.next∧S.obj o=some (.row 1 (els intc l))∧l ≠ []∧C o)∧∀o,C o→o < S.next
theorem xIV {k:Nat} {C:Nat→Prop} {x:Int} {S:St} {K:AV→St→Prop} (hk:k < 128) (h:OrdI k C S)
  (hK:∀C' S',OrdI (k + 1) C' S'→S.next≤S'.next→(∀o,o < S.next→¬ C o→S'.obj o=S.obj o)→(∀o,C' o→C o ∨ S.next≤o)→K (.tuple []) S'):Cal P g 229 [.int .i64 x,.ptr 0 0 0] S K:=by
 obtain ⟨v,l,hl,hb,hn,hC0,hv,hlt⟩:=h
 refine c229.in (by simp) ?_
 have hr0:¬ room=0:=by simp [room]
 have hr:l.length + 1≤room:=by simp [room];omega
 have n0:¬ 0=S.next:=by omega
 simp [k229,hb]
 rcases hv with ⟨rfl,rfl⟩ | ⟨o,rfl,ho0,hon,hob,hne,hCo⟩
 ·simp [hr0,n0,hb]
  refine hK (fun q=>q=0 ∨ q=S.next + 1) _ ⟨.sl 1 (S.next + 1) 0 1,[x],by simp at hl;simp;omega,by simp,by simp,.inl rfl,.inr ⟨S.next + 1,by simp,by simp,by simp,by simp [els,intc],by simp,.inr rfl⟩,?_⟩ (by simp;omega) ?_ ?_
  ·rintro q (rfl | rfl) <;> simp
  ·intro q hq hC
   have:¬ q=0:=fun e=>hC (e ▸ hC0)
   simp [this,show ¬ q=S.next + 1 by omega,show ¬ q=S.next by omega]
  ·rintro q (rfl | rfl)
   ·exact .inl hC0
   ·exact .inr (by omega)
 ·have no:¬ o=S.next:=by omega
  have n1:¬ 0=o:=by omega
  simp [hr0,n0,n1,hb,hob,no,hr]
  refine hK (fun q=>q=0 ∨ q=S.next + 1) _ ⟨.sl 1 (S.next + 1) 0 (l.length + 1),l ++ [x],by simp [hl],by simp,by simp,.inl rfl,.inr ⟨S.next + 1,by simp,by simp,by simp,?_,by simp,.inr rfl⟩,?_⟩ (by simp;omega) ?_ ?_
  ·simp
   rw [yAI (by simp)]
   simp [els,intc]
  ·rintro q (rfl | rfl) <;> simp
  ·intro q hq hC
   have h1:¬ q=0:=fun e=>hC (e ▸ hC0)
   have h2:¬ q=o:=fun e=>hC (e ▸ hCo)
   simp [h1,h2,show ¬ q=S.next + 1 by omega,show ¬ q=S.next by omega]
  ·rintro q (rfl | rfl)
   ·exact .inl hC0
   ·exact .inr (by omega)
theorem xF0 {v:AV} {G:List (List Int)} (hv:GrV v G) (hG:G.length≤128) (hl:∀l ∈ G,l.length < 1048576) (a0:Nat):RetE P g false 175 [v,.int .i64 (a0:Int)] (fun y=>∃ l:List Int,FSl intc 1 y l∧l.length≤128):=by
 refine RetE.in c175 (by simp) ?_
 simp [k175]
 refine (xAD hv (by omega) (fun l h=>by have:=hl l h;omega)).use (n:=9) ?_ rfl ?_ <;> simp [xAc hv.stab]
 have hCl:(cleanG G).length=G.length:=by simp [cleanG]
 have hCm:∀l ∈ cleanG G,l.length < 1048576∧∀x ∈ l,0≤x∧x < (cleanG G).length:=by
  intro l h
  rw [hCl]
  simp only [cleanG,yAU] at h
  obtain ⟨m,hm,rfl⟩:=h
  exact ⟨yBM (xAS _ _) (hl m hm),fun x hx=>(xAp.1 hx).2⟩
 refine xL5 a0 (xCj (cleanG G)) (by omega) hCm rfl OrdI (fun o=>o=0) ?_ ?_ ?_ ?_ ?_
 ·refine ⟨.nilsl,[],rfl,by simp,by simp,rfl,.inl ⟨rfl,rfl⟩,?_⟩
  rintro o rfl;simp
 ·rintro k C S' ⟨_,_,_,_,_,_,_,h⟩
  exact h
 ·rintro k C S' S'' ⟨v,l,h1,h2,h3,h4,h5,h6⟩ hn hs
  refine ⟨v,l,h1,by rw [hs 0 h4];exact h2,by omega,h4,?_,fun o ho=>by have:=h6 o ho;omega⟩
  rcases h5 with h5 | ⟨o,a1,a2,a3,a4,a5,a6⟩
  ·exact .inl h5
  ·exact .inr ⟨o,a1,a2,by omega,by rw [hs o a6];exact a4,a5,a6⟩
 ·rintro k C x S' hx hkn hI K' hK'
  simp
  exact xIV (by omega) hI hK'
 ·rintro k C S' hkn ⟨v,l,h1,h2,h3,h4,h5,h6⟩ hn hfr
  simp [h2]
  rcases h5 with ⟨rfl,rfl⟩ | ⟨o,rfl,a2,a3,a4,a5,a6⟩
  ·refine xD7 ?_
   simp [h2]
   exact ⟨.nilsl,⟨[],.inr ⟨rfl,rfl⟩,by simp⟩,1,rfl⟩
  ·refine xD6 a4 (by omega) fun l' hl'=>?_
   simp [h2,show ¬ 0=o by omega]
   refine ⟨_,⟨l',.inl rfl,by omega⟩,2,?_⟩
   rw [← hl']
   refine xAz (es:=els intc l') (by simp) (by simp) (by simp) fun k e he=>?_
   rw [he]
   simp only [els,yAN] at he
   cases hz:l'[k]? with
   | none=>rw [hz] at he;cases he
   | some z=>rw [hz] at he;cases he;simp [intc]
def Fre (S:St) (v:AV) (l:List Int):Prop:=(v=.nilsl∧l=[]) ∨ ∃ o off es,v=.sl 1 o off l.length∧2≤o∧o < S.next∧S.obj o=some (.row 1 es)∧(es.drop off).take l.length=els intc l∧off + l.length≤es.length
theorem Fre.len {S:St} {v:AV} {l:List Int} (h:Fre S v l):lenV v=some l.length:=by
 rcases h with ⟨rfl,rfl⟩ | ⟨o,off,es,rfl,_⟩ <;> rfl
theorem Fre.other {S S':St} {v:AV} {l:List Int} (h:Fre S v l) (hn:S.next≤S'.next) (hq:∀q,2≤q→q < S.next→S'.obj q=S.obj q):Fre S' v l:=by
 rcases h with h | ⟨o,off,es,rfl,h1,h2,h3,h4⟩
 ·exact .inl h
 ·exact .inr ⟨o,off,es,rfl,h1,by omega,by rw [hq o h1 h2];exact h3,h4⟩
theorem Fre.app {S:St} {v:AV} {l:List Int} {x:Int} (h:Fre S v l) (h2:2≤S.next) (hr:l.length + 1≤room) :
  ∃ w S',appV 1 v S [[.int .i64 x]]=some (w,S')∧w.one=true∧S'.next=S.next + 1∧Fre S' w (l ++ [x])∧∀q,q < 2→S'.obj q=S.obj q:=by
 have hr0:¬ room=0:=by simp [room]
 rcases h with ⟨rfl,rfl⟩ | ⟨o,off,es,rfl,a1,a2,a3,a4,a5⟩
 ·refine ⟨.sl 1 S.next 0 1,S.new (.row 1 [[.int .i64 x]]),by simp [hr0],rfl,by simp,.inr ⟨S.next,0,[[.int .i64 x]],by simp,h2,by simp,by simp,by simp [els,intc],by simp⟩,fun q hq=>?_⟩
  simp [show ¬ q=S.next by omega]
 ·refine ⟨.sl 1 S.next 0 (l.length + 1),(S.drop o).new (.row 1 (els intc (l ++ [x]))),?_,rfl,by simp,.inr ⟨S.next,0,els intc (l ++ [x]),by simp,h2,by simp,by simp,?_,by simp⟩,fun q hq=>?_⟩
  ·simp [hr0,a3,a5,hr,a4]
   simp [els,intc]
  ·rw [yBA,yAI (by simp)]
  ·simp [show ¬ q=S.next by omega,show ¬ q=o by omega]
theorem Fre.head {S:St} {v:AV} {x:Int} {l:List Int} (h:Fre S v (x :: l)):∃ o off es,v=.sl 1 o off (l.length + 1)∧S.obj o=some (.row 1 es)∧es[off]?=some [.int .i64 x]∧Fre S (.sl 1 o (off + 1) l.length) l:=by
 rcases h with ⟨_,h⟩ | ⟨o,off,es,rfl,a1,a2,a3,a4,a5⟩
 ·cases h
 ·simp at a5
  have h0:=congrArg (fun d=>d[0]?) a4
  simp [els,yBO,intc] at h0
  refine ⟨o,off,es,rfl,a3,h0,.inr ⟨o,off + 1,es,rfl,a1,a2,a3,?_,by omega⟩⟩
  have h1:=congrArg (fun d=>d.drop 1) a4
  simp only [List.drop_take,yAt,yAh,yBN] at h1
  rw [h1];rfl
def posN (l:List Int):Nat:=(l.filter fun x=>decide (0 < x)).length
theorem xPt {l:List Int} {i:Nat} {x y:Int} (h:l[i]?=some x):posN (l.set i y) + (if 0 < x then 1 else 0)=posN l + (if 0 < y then 1 else 0):=by
 unfold posN
 induction l generalizing i with
 | nil=>simp at h
 | cons a l ih =>
  cases i with
  | zero =>
   simp at h;subst h
   simp only [List.set_cons_zero,List.filter_cons]
   by_cases h1:0 < a <;> by_cases h2:0 < y <;> simp [h1,h2] <;> omega
  | succ i =>
   have:=ih (i:=i) (by simpa using h)
   simp only [List.set_cons_succ,List.filter_cons]
   by_cases h1:0 < a <;> simp [h1] <;> omega
theorem xJ6 (l:List Int):posN l≤l.length:=yAb _ _
theorem xNI {v:AV} {G:List (List Int)} (hv:GrV v G) (hG:G.length≤128) (hin:∀l ∈ G,l.length < 1048576∧∀x ∈ l,0≤x∧x < G.length):RetE P g false 228 [v] (fun y=>∃ r:List Int,y=.fsl 1 (els intc r)∧r.length=G.length):=by
 refine RetE.in c228 (by simp) ?_
 have hroom:G.length≤room:=by simp [room];omega
 simp [k228,hv.len,hroom]
 have e0:∀n:Nat,List.replicate n [AV.int IntKind.i64 0]=els intc (List.replicate n 0):=fun n=>xAh (e:=intc)
 rw [e0]
 refine W.whileI (fun (a:Nat) F S=>a≤G.length∧F 0=v∧F 3=.sl 1 0 0 G.length∧F 4=.sl 1 1 0 G.length∧F 21=v∧F 22=.int .i64 G.length∧F 23=.int .i64 a∧2≤S.next∧S.obj 0=some (.row 1 (els intc (List.replicate G.length 0))) ∧
  ∃ r:List Int,r.length=G.length∧S.obj 1=some (.row 1 (els intc r))∧∀x ∈ r,0≤x∧x≤a * 1048576) (fun a=>G.length - a) ?_ 0 _ _ ?_
 ·rintro a F S ⟨ha,h0,h3,h4,h21,h22,h23,hn,ho0,r,hr,ho1,hrx⟩
  by_cases hlt:a < G.length
  ·obtain ⟨l,hx⟩:∃ l,G[a]?=some l:=⟨_,xgG hlt⟩
   obtain ⟨w,hw,hix⟩:=hv.idx hx
   obtain ⟨hll,hlx⟩:=hin l (xmG hx)
   have e4:=wrapS a (by omega)
   simp [h22,h23,hlt]
   simp [h21,h23,hix,hw.len]
   refine W.whileI (fun (k:Nat) F S=>k≤l.length∧F 0=v∧F 3=.sl 1 0 0 G.length∧F 4=.sl 1 1 0 G.length∧F 21=v∧F 22=.int .i64 G.length∧F 23=.int .i64 a∧F 27=w∧F 28=.int .i64 l.length∧F 29=.int .i64 k∧2≤S.next∧S.obj 0=some (.row 1 (els intc (List.replicate G.length 0))) ∧
    ∃ r:List Int,r.length=G.length∧S.obj 1=some (.row 1 (els intc r))∧∀x ∈ r,0≤x∧x≤a * 1048576 + k) (fun k=>l.length - k) ?_ 0 _ _ ?_
   ·rintro k F S ⟨hk,h0,h3,h4,h21,h22,h23,h27,h28,h29,hn,ho0,r,hr,ho1,hrx⟩
    by_cases hlk:k < l.length
    ·obtain ⟨x,hxk⟩:∃ x,l[k]?=some x:=⟨_,xgG hlk⟩
     have e5:=wrapS k (by omega)
     obtain ⟨hx0,hxn⟩:=hlx x (xmG hxk)
     obtain ⟨b,rfl⟩:∃ b:Nat,x=(b:Int):=⟨x.toNat,by omega⟩
     have hbn:b < G.length:=by omega
     obtain ⟨y,hy⟩:∃ y,r[b]?=some y:=⟨_,xgG (by omega)⟩
     have hyb:=hrx y (xmG hy)
     have e6:IntKind.i64.wrap (y + 1)=y + 1:=xAa (by omega)
     simp [h28,h29,hlk]
     simp [h27,h29,hw.idx hxk,intc,h4,xAd hbn,ho1,hy,e6,e5,h0,h3,h21,h22,h23]
     refine ⟨k + 1,by omega,by omega,by omega,hn,ho0,r.set b (y + 1),by simp [hr],?_,?_⟩
     ·rw [← xAg];rfl
     ·intro z hz
      rcases yAP hz with h | rfl
      ·have:=hrx z h;omega
      ·omega
    ·have:k=l.length:=by omega
     subst this
     simp [h28,h29,h0,h3,h4,h21,h22,h23,e4]
     refine ⟨a + 1,by omega,by omega,by omega,hn,ho0,r,hr,ho1,fun x hx=>?_⟩
     have:=hrx x hx;omega
   ·simp [h0,h3,h4,h21,h22,h23]
    exact ⟨hn,ho0,r,hr,ho1,hrx⟩
  ·have:a=G.length:=by omega
   subst this
   simp [h22,h23,h4]
   have hrb:∀x ∈ r,-(0:Int)≤x∧x≤134217728:=fun x hx=>by have:=hrx x hx;omega
   refine W.whileI (fun (a:Nat) F S=>a≤G.length∧F 0=v∧F 3=.sl 1 0 0 G.length∧F 4=.sl 1 1 0 G.length∧F 41=.sl 1 1 0 G.length∧F 42=.int .i64 G.length∧F 43=.int .i64 a∧2≤S.next∧S.obj 0=some (.row 1 (els intc (List.replicate G.length 0))) ∧
    S.obj 1=some (.row 1 (els intc r))∧∃ fr:List Int,Fre S (F 9) fr∧fr.length≤a∧∀x ∈ fr,0≤x∧x < G.length) (fun a=>G.length - a) ?_ 0 _ _ ?_
   ·rintro a F S ⟨ha,h0,h3,h4,h41,h42,h43,hn,ho0,ho1,fr,hfr,hfl,hfx⟩
    by_cases hlt:a < G.length
    ·obtain ⟨y,hy⟩:∃ y,r[a]?=some y:=⟨_,xgG (by omega)⟩
     have e4:=wrapS a (by omega)
     simp [h42,h43,hlt]
     simp [h41,h43,xAd hlt,ho1,hy,intc]
     by_cases hy0:y=0
     ·obtain ⟨w,S',q1,q2,q3,q4,q5⟩:=(hfr.other (S':=S.new (.row 1 [[.int .i64 (a:Int)]])) (by simp) (fun q h1 h2=>by simp [show ¬ q=S.next by omega])).app (x:=(a:Int)) (by simp;omega) (by simp [room];omega)
      have p0:=q5 0 (by omega)
      have p1:=q5 1 (by omega)
      simp [show ¬ 0=S.next by omega,ho0] at p0
      simp [show ¬ 1=S.next by omega,ho1] at p1
      simp [hy0]
      simp [q1,h0,h3,h4,h41,h42,h43,e4]
      refine ⟨a + 1,by omega,by omega,by omega,by simp at q3;omega,p0,p1,_,q4,by simp;omega,?_⟩
      intro x hx
      rw [yAQ,yAO] at hx
      rcases hx with hx | rfl
      ·exact hfx x hx
      ·omega
     ·simp [hy0,h0,h3,h4,h41,h42,h43,e4]
      exact ⟨a + 1,by omega,by omega,by omega,hn,ho0,ho1,fr,hfr,by omega,hfx⟩
    ·simp [h42,h43,hlt]
     refine W.whileI (fun (z:List Int × List Int) F S=>F 0=v∧F 3=.sl 1 0 0 G.length∧F 4=.sl 1 1 0 G.length∧2≤S.next∧(∃ r0:List Int,r0.length=G.length∧S.obj 0=some (.row 1 (els intc r0)))∧z.2.length=G.length∧S.obj 1=some (.row 1 (els intc z.2)) ∧
      Fre S (F 9) z.1∧(∀x ∈ z.1,0≤x∧x < G.length)∧∃ c:Nat,posN z.2 + z.1.length + c=256∧∀x ∈ z.2,-((c:Int) * 1048576)≤x∧x≤134217728) (fun z=>posN z.2 + z.1.length) ?_ (fr,r) _ _ ?_
     ·rintro ⟨fr,r⟩ F S ⟨h0,h3,h4,hn,⟨r0,hr0,ho0⟩,hr,ho1,hfr,hfx,c,hc,hcx⟩
      simp only at hr ho1 hfr hfx hc hcx
      have hpl:=xJ6 r
      cases fr with
      | nil =>
       simp [hfr.len,h3]
       refine ⟨_,⟨r0,rfl,hr0⟩,2,?_⟩
       rw [← hr0]
       refine xAz ho0 (by simp) (by simp) fun k e he=>?_
       rw [he]
       simp only [els,yAN] at he
       cases hz:r0[k]? with
       | none=>rw [hz] at he;cases he
       | some z=>rw [hz] at he;cases he;simp [intc]
      | cons x fr =>
       obtain ⟨hx0,hxn⟩:=hfx x (by simp)
       obtain ⟨a,rfl⟩:∃ a:Nat,x=(a:Int):=⟨x.toNat,by omega⟩
       have han:a < G.length:=by omega
       obtain ⟨l,hx⟩:∃ l,G[a]?=some l:=⟨_,xgG han⟩
       obtain ⟨w,hw,hix⟩:=hv.idx hx
       obtain ⟨hll,hlx⟩:=hin l (xmG hx)
       obtain ⟨fo,off,es,e9,hfo,hes,hfr'⟩:=hfr.head
       have hix0:pk (PK.indexAddr 1) [AV.sl 1 fo off (fr.length + 1),AV.int IntKind.i64 0]=some (.ptr fo off 0):=xAd (k:=0) (by omega)
       have hsl:pk (.slice 1 true false false) [.sl 1 fo off (fr.length + 1),.int .i64 1]=some (.sl 1 fo (off + 1) fr.length):=xEy (k:=1) (by omega)
       simp [hfr.len]
       simp [e9,hix0,hfo,hes,hsl,h0,hix,hw.len]
       simp at hc
       refine W.whileI (fun (k:Nat) F S=>k≤l.length∧F 0=v∧F 3=.sl 1 0 0 G.length∧F 4=.sl 1 1 0 G.length∧F 12=.int .i64 a∧F 66=w∧F 67=.int .i64 l.length∧F 68=.int .i64 k∧2≤S.next∧(∃ r0:List Int,r0.length=G.length∧S.obj 0=some (.row 1 (els intc r0))) ∧
        ∃ (r fr:List Int),r.length=G.length∧S.obj 1=some (.row 1 (els intc r))∧Fre S (F 9) fr∧(∀x ∈ fr,0≤x∧x < G.length)∧posN r + fr.length + (c + 1)=256∧∀x ∈ r,-((c:Int) * 1048576) - k≤x∧x≤134217728) (fun k=>l.length - k) ?_ 0 _ _ ?_
       ·rintro k F S ⟨hk,h0,h3,h4,h12,h66,h67,h68,hn,⟨r0,hr0,ho0⟩,r,fr,hr,ho1,hfr,hfx,hc,hcx⟩
        by_cases hlk:k < l.length
        ·obtain ⟨x,hxk⟩:∃ x,l[k]?=some x:=⟨_,xgG hlk⟩
         have e5:=wrapS k (by omega)
         obtain ⟨hx0,hxn⟩:=hlx x (xmG hxk)
         obtain ⟨b,rfl⟩:∃ b:Nat,x=(b:Int):=⟨x.toNat,by omega⟩
         have hbn:b < G.length:=by omega
         obtain ⟨y,hy⟩:∃ y,r[b]?=some y:=⟨_,xgG (by omega)⟩
         obtain ⟨u,hu⟩:∃ u,r0[b]?=some u:=⟨_,xgG (by omega)⟩
         obtain ⟨u',hu'⟩:∃ u,r0[a]?=some u:=⟨_,xgG (by omega)⟩
         have hyb:=hcx y (xmG hy)
         have e6:IntKind.i64.wrap (y - 1)=y - 1:=xAa (by omega)
         simp [h67,h68,hlk]
         simp [h66,h68,hw.idx hxk,intc]
         refine Dra.auto [] mix ?_ ?_
         ·kernel_rfl
         simp [classes,h3,h12,xAd hbn,xAd han,ho0,hu,hu',intc,foldI]
         have hbs:((els intc r).set b [AV.int IntKind.i64 (y - 1)])[b]?=some [AV.int IntKind.i64 (y - 1)]:=by rw [yAF (by simp;omega)]
         simp [h4,xAd hbn,ho1,hy,intc,e6,hbs]
         generalize hz:(if u < IntKind.i64.wrap (u' + 1) then IntKind.i64.wrap (u' + 1) else u)=z
         have hps:=xPt (y:=y - 1) hy
         have hfr2:Fre ((S.set 0 (.row 1 ((els intc r0).set b [.int .i64 z]))).set 1 (.row 1 ((els intc r).set b [.int .i64 (y - 1)]))) (F 9) fr:=hfr.other (by simp) fun q h1 h2=>by simp [show ¬ q=0 by omega,show ¬ q=1 by omega]
         have hrx:∀x ∈ r.set b (y - 1),-((c:Int) * 1048576) - (k + 1:Nat)≤x∧x≤134217728:=by
          intro x hx
          rcases yAP hx with h | rfl
          ·have:=hcx x h;omega
          ·omega
         by_cases hy1:y - 1=0
         ·have hpl:=xJ6 r
          obtain ⟨w',S',q1,q2,q3,q4,q5⟩:=(hfr2.other (S':=((S.set 0 (.row 1 ((els intc r0).set b [.int .i64 z]))).set 1 (.row 1 ((els intc r).set b [.int .i64 (y - 1)]))).new (.row 1 [[.int .i64 (b:Int)]])) (by simp) (fun q h1 h2=>by simp at h2;simp [show ¬ q=S.next by omega])).app (x:=(b:Int)) (by simp;omega) (by simp [room];omega)
          have p0:=q5 0 (by omega)
          have p1:=q5 1 (by omega)
          simp [show ¬ 0=S.next by omega] at p0
          simp [show ¬ 1=S.next by omega] at p1
          rw [hy1] at q1 p1 hrx hps
          simp [hy1]
          simp [q1,h0,h3,h4,h12,h66,h67,h68,e5]
          refine ⟨k + 1,by omega,by omega,by omega,by simp at q3;omega,⟨r0.set b z,by simp [hr0],by rw [p0,← xAg];rfl⟩,r.set b 0,by simp [hr],by rw [p1,← xAg];rfl,_,q4,?_,?_,hrx⟩
          ·intro x hx
           rw [yAQ,yAO] at hx
           rcases hx with hx | rfl
           ·exact hfx x hx
           ·omega
          ·have:y=1:=by omega
           subst this
           simp at hps ⊢
           omega
         ·simp [hy1,h0,h3,h4,h12,h66,h67,h68,e5]
          refine ⟨k + 1,by omega,by omega,by omega,hn,⟨r0.set b z,by simp [hr0],by rw [← xAg];rfl⟩,r.set b (y - 1),by simp [hr],by rw [← xAg];rfl,fr,hfr2,hfx,?_,hrx⟩
          by_cases h1:0 < y
          ·rw [if_pos h1,if_pos (by omega)] at hps
           omega
          ·rw [if_neg h1,if_neg (by omega)] at hps
           omega
        ·have:k=l.length:=by omega
         subst this
         simp [h67,h68,h0,h3,h4]
         refine ⟨fr,r,by omega,hn,⟨r0,hr0,ho0⟩,hr,ho1,hfr,hfx,c + 1,hc,fun x hx=>?_⟩
         have:=hcx x hx
         omega
       ·simp [h0,h3,h4]
        exact ⟨hn,⟨r0,hr0,ho0⟩,r,hr,ho1,fr,hfr',fun x hx=>hfx x (by simp [hx]),by omega,hcx⟩
     ·simp
      exact ⟨h0,h3,h4,hn,⟨_,by simp,ho0⟩,hr,ho1,hfr,hfx,256 - (posN r + fr.length),by have:=xJ6 r;omega,fun x hx=>by have:=hrb x hx;omega⟩
   ·simp
    exact ⟨h0,h3,h4,hn,ho0,ho1,[],.inl ⟨rfl,rfl⟩,rfl,by simp⟩
 ·simp
  exact ⟨_,by simp,rfl,fun x hx=>by rw [(yAc.1 hx).2];omega⟩
def Rd {α:Type} (B:Nat) (e:α→List AV) (sz:Nat) (S:St) (v:AV) (l:List α):Prop:=(v=.nilsl∧l=[]) ∨ ∃ o,v=.sl sz o 0 l.length∧B≤o∧o < S.next∧S.obj o=some (.row sz (els e l))
theorem Rd.len {α:Type} {B:Nat} {e:α→List AV} {sz:Nat} {S:St} {v:AV} {l:List α} (h:Rd B e sz S v l):lenV v=some l.length:=by
 rcases h with ⟨rfl,rfl⟩ | ⟨o,rfl,_⟩ <;> rfl
theorem Rd.one {α:Type} {B:Nat} {e:α→List AV} {sz:Nat} {S:St} {v:AV} {l:List α} (h:Rd B e sz S v l):v.one=true:=by
 rcases h with ⟨rfl,rfl⟩ | ⟨o,rfl,_⟩ <;> rfl
theorem Rd.keep {α:Type} {B:Nat} {e:α→List AV} {sz:Nat} {S S':St} {v:AV} {l:List α} (h:Rd B e sz S v l) (hn:S.next≤S'.next) (hk:∀q,B≤q→q < S.next→(∃ c,v=.sl sz q 0 c)→S'.obj q=S.obj q):Rd B e sz S' v l:=by
 rcases h with h | ⟨o,rfl,h1,h2,h3⟩
 ·exact .inl h
 ·exact .inr ⟨o,rfl,h1,by omega,by rw [hk o h1 h2 ⟨_,rfl⟩];exact h3⟩
theorem xPu {B p off sz:Nat} {cells:List AV} {v:AV} {l:List Int} {x:Int} {S:St} {K:AV→St→Prop} (hp:S.obj p=some (.row sz [cells])) (hc:cells[off]?=some v) (h:Rd B intc 1 S v l) (hpB:p < B) (hB:B≤S.next) (hr:l.length + 1≤room)
  (hk:∀S',S'.next=S.next + 2→S'.obj (S.next + 1)=some (.row 1 (els intc (l ++ [x])))→S'.obj p=some (.row sz [cells.set off (.sl 1 (S.next + 1) 0 (l.length + 1))])→(∀q,q < S.next→q ≠ p→(∀c,v ≠ .sl 1 q 0 c)→S'.obj q=S.obj q)→K (.tuple []) S') :
  Cal P g 284 [.ptr p 0 off,.int .i64 x] S K:=by
 refine c284.in (by simp) ?_
 have hoff:=(xgS hc).1
 have hr0:¬ room=0:=by simp [room]
 have n0:¬ p=S.next:=by omega
 have n1:¬ p=S.next + 1:=by omega
 simp [k284,hp,hc]
 rcases h with ⟨rfl,rfl⟩ | ⟨o,rfl,h1,h2,h3⟩
 ·simp [hr0,n0,n1,hp,show off + 1≤cells.length by omega]
  refine hk _ (by simp) ?_ (by simp) ?_
  ·simp [show ¬ S.next + 1=p by omega,els,intc]
  ·intro q hq hqp _
   simp [hqp,show ¬ q=S.next + 1 by omega,show ¬ q=S.next by omega]
 ·have n2:¬ o=S.next:=by omega
  have n3:¬ p=o:=by omega
  simp [hr0,n0,n1,n2,n3,hp,h3,hr,show off + 1≤cells.length by omega]
  refine hk _ (by simp) ?_ (by simp) ?_
  ·simp [show ¬ S.next + 1=p by omega]
   rw [yAI (by simp)]
   simp [els,intc]
  ·intro q hq hqp hv
   have:¬ q=o:=fun e=>hv _ (by rw [e])
   simp [hqp,this,show ¬ q=S.next + 1 by omega,show ¬ q=S.next by omega]
theorem xNJ {B p off sz:Nat} {cells:List AV} {v:AV} {l:List (Nat × Nat)} {x:Nat × Nat} {S:St} {K:AV→St→Prop} (hp:S.obj p=some (.row sz [cells])) (hc:cells[off]?=some v) (h:Rd B stepc 2 S v l) (hpB:p < B) (hB:B≤S.next) (hr:l.length + 1≤room)
  (hk:∀S',S'.next=S.next + 3→S'.obj (S.next + 2)=some (.row 2 (els stepc (l ++ [x])))→S'.obj p=some (.row sz [cells.set off (.sl 2 (S.next + 2) 0 (l.length + 1))])→(∀q,q < S.next→q ≠ p→(∀c,v ≠ .sl 2 q 0 c)→S'.obj q=S.obj q)→K (.tuple []) S') :
  Cal P g 285 [.ptr p 0 off,.agg (stepc x)] S K:=by
 refine c285.in (by simp) ?_
 have hoff:=(xgS hc).1
 have hr0:¬ room=0:=by simp [room]
 have n0:¬ p=S.next:=by omega
 have n1:¬ p=S.next + 1:=by omega
 have n2:¬ p=S.next + 1 + 1:=by omega
 simp [k285,stepc]
 refine Dra.auto [] mix ?_ ?_
 ·kernel_rfl
 simp [classes,hp,hc,n0]
 rcases h with ⟨rfl,rfl⟩ | ⟨o,rfl,h1,h2,h3⟩
 ·simp [hr0,n0,n1,n2,hp,show off + 1≤cells.length by omega]
  refine hk _ (by simp) ?_ (by simp) ?_
  ·simp [show ¬ S.next + 2=p by omega,els,stepc]
  ·intro q hq hqp _
   simp [hqp,show ¬ q=S.next + 1 + 1 by omega,show ¬ q=S.next + 1 by omega,show ¬ q=S.next by omega]
 ·have n4:¬ o=S.next:=by omega
  have n5:¬ o=S.next + 1:=by omega
  have n3:¬ p=o:=by omega
  simp [hr0,n0,n1,n2,n3,n4,n5,hp,h3,hr,show off + 1≤cells.length by omega]
  refine hk _ (by simp) ?_ (by simp) ?_
  ·simp [show ¬ S.next + 2=p by omega]
   rw [yAI (by simp)]
   simp [els,stepc]
  ·intro q hq hqp hv
   have:¬ q=o:=fun e=>hv _ (by rw [e])
   simp [hqp,this,show ¬ q=S.next + 1 + 1 by omega,show ¬ q=S.next + 1 by omega,show ¬ q=S.next by omega]
theorem xK4 {p off sz o:Nat} {cells:List AV} {l:List (Nat × Nat)} {S:St} {K:AV→St→Prop} (hp:S.obj p=some (.row sz [cells])) (hc:cells[off]?=some (.sl 2 o 0 (l.length + 1))) (hl:l.length < 2 ^ 40) (hk:K (.ptr o l.length 0) S) :
  Cal P g 279 [.ptr p 0 off] S K:=by
 refine c279.in (by simp) ?_
 have e5:IntKind.i64.wrap (l.length:Int)=(l.length:Int):=xAa (by omega)
 have hix:pk (PK.indexAddr 2) [AV.sl 2 o 0 (l.length + 1),AV.int IntKind.i64 (l.length:Int)]=some (.ptr o (0 + l.length) 0):=xAd (by omega)
 simp [k279]
 refine Dra.auto [] mix ?_ ?_
 ·kernel_rfl
 simp [classes,hp,hc,e5,hix]
 exact hk
theorem xRf {p off sz o:Nat} {cells:List AV} {l:List Int} {x:Int} {S:St} {K:AV→St→Prop} (hp:S.obj p=some (.row sz [cells])) (hc:cells[off]?=some (.sl 1 o 0 (l.length + 1))) (ho:S.obj o=some (.row 1 (els intc (l ++ [x])))) (hne:p ≠ o) (hl:l.length < 2 ^ 40)
  (hk:K (.int .i64 x) ((S.set p (.row sz [cells.set off (.sl 1 o 0 l.length)])).set o (.row 1 (els intc l)))):Cal P g 286 [.ptr p 0 off] S K:=by
 refine Cal.less ?_
 refine c286.in (by simp) ?_
 have hoff:=(xgS hc).1
 have e5:IntKind.i64.wrap (l.length:Int)=(l.length:Int):=xAa (by omega)
 have hix:pk (PK.indexAddr 1) [AV.sl 1 o 0 (l.length + 1),AV.int IntKind.i64 (l.length:Int)]=some (.ptr o (0 + l.length) 0):=xAd (by omega)
 have hsl:pk (.slice 1 false true false) [.sl 1 o 0 (l.length + 1),.int .i64 (l.length:Int)]=some (.sl 1 o 0 l.length):=xII (by omega)
 have hget:(els intc (l ++ [x]))[l.length]?=some [.int .i64 x]:=by simp [els,intc]
 have hget2:∀h:l.length < (els intc (l ++ [x])).length,(els intc (l ++ [x]))[l.length]=[.int .i64 x]:=fun h=>by simp [els,intc]
 simp [k286]
 refine Dra.auto [] mix ?_ ?_
 ·kernel_rfl
 simp [classes,hp,hc,ho,e5,hix,hget,hget2]
 refine Dra.auto [] mix ?_ ?_
 ·kernel_rfl
 simp [classes,hp,hc,ho,e5,hsl,show off + 1≤cells.length by omega]
 have hcut:=Wk.cut (S:=S.set p (.row sz [cells.set off (.sl 1 o 0 l.length)])) (o:=o) (sz:=1) (es:=els intc (l ++ [x])) l.length (by simp [Ne.symm hne,ho])
 rw [xAs,List.take_left' rfl] at hcut
 exact ⟨_,hcut,hk⟩
theorem xPv {p off sz o:Nat} {cells:List AV} {l:List (Nat × Nat)} {x:Nat × Nat} {S:St} {K:AV→St→Prop} (hp:S.obj p=some (.row sz [cells])) (hc:cells[off]?=some (.sl 2 o 0 (l.length + 1))) (ho:S.obj o=some (.row 2 (els stepc (l ++ [x])))) (hne:p ≠ o) (hpn:p < S.next) (hon:o < S.next) (hl:l.length < 2 ^ 40)
  (hk:∀S',S'.next=S.next + 2→S'.obj p=some (.row sz [cells.set off (.sl 2 o 0 l.length)])→S'.obj o=some (.row 2 (els stepc l))→(∀q,q < S.next→q ≠ p→q ≠ o→S'.obj q=S.obj q)→K (.agg (stepc x)) S'):Cal P g 281 [.ptr p 0 off] S K:=by
 refine Cal.less ?_
 refine c281.in (by simp) ?_
 have hoff:=(xgS hc).1
 have e5:IntKind.i64.wrap (l.length:Int)=(l.length:Int):=xAa (by omega)
 have hix:pk (PK.indexAddr 2) [AV.sl 2 o 0 (l.length + 1),AV.int IntKind.i64 (l.length:Int)]=some (.ptr o (0 + l.length) 0):=xAd (by omega)
 have hsl:pk (.slice 2 false true false) [.sl 2 o 0 (l.length + 1),.int .i64 (l.length:Int)]=some (.sl 2 o 0 l.length):=xII (by omega)
 have hget:(els stepc (l ++ [x]))[l.length]?=some [.int .i64 (x.1:Int),.int .i64 (x.2:Int)]:=by simp [els,stepc]
 have hget2:∀h:l.length < (els stepc (l ++ [x])).length,(els stepc (l ++ [x]))[l.length]=[.int .i64 (x.1:Int),.int .i64 (x.2:Int)]:=fun h=>by simp [els,stepc]
 have n1:¬ p=S.next:=by omega
 have n2:¬ p=S.next + 1:=by omega
 have n3:¬ o=S.next:=by omega
 have n4:¬ o=S.next + 1:=by omega
 simp [k281]
 refine Dra.auto [] mix ?_ ?_
 ·kernel_rfl
 simp [classes,hp,hc,ho,e5,hix,hget,hget2,n1,n2,n3,n4]
 refine Dra.auto [] mix ?_ ?_
 ·kernel_rfl
 simp [classes,hp,hc,ho,e5,hsl,n1,n2,n3,n4,show off + 1≤cells.length by omega,show ¬ S.next=p by omega,show ¬ S.next + 1=p by omega]
 refine ⟨_,Wk.cut (o:=o) (sz:=2) (es:=els stepc (l ++ [x])) l.length (by simp [Ne.symm hne,ho,n1,n2,n3,n4]),?_⟩
 rw [xAs,List.take_left' rfl]
 refine hk _ (by simp) ?_ (by simp) ?_
 ·simp [hne,n1,n2]
 ·intro q hq hqp hqo
  simp [hqp,hqo,show ¬ q=S.next by omega,show ¬ q=S.next + 1 by omega]
def partc (l:List Int):List AV:=[.fsl 1 (els intc l)]
structure Tj where
 met:List Int
 low:List Int
 inn:List Bool
 opn:List Int
 way:List (Nat × Nat)
 clock:Nat
 parts:List (List Int)
def tjCells (gv:AV) (n om ol oi:Nat) (ov wv pv:AV) (clock:Nat):List AV:=[gv,.sl 1 om 0 n,.sl 1 ol 0 n,ov,.sl 1 oi 0 n,.int .i64 (clock:Int),wv,pv]
structure TjS (B n T om ol oi:Nat) (gv:AV) (S:St) (ov wv pv:AV) (z:Tj):Prop where
 lT:T < B
 lm:om < B
 ll:ol < B
 li:oi < B
 le:B≤S.next
 ids:T ≠ om∧T ≠ ol∧T ≠ oi∧om ≠ ol∧om ≠ oi∧ol ≠ oi
 obj:S.obj T=some (.row 8 [tjCells gv n om ol oi ov wv pv z.clock])
 rm:S.obj om=some (.row 1 (els intc z.met))
 rl:S.obj ol=some (.row 1 (els intc z.low))
 ri:S.obj oi=some (.row 1 (els boolc z.inn))
 lenm:z.met.length=n
 lenl:z.low.length=n
 leni:z.inn.length=n
 ro:Rd B intc 1 S ov z.opn
 rw:Rd B stepc 2 S wv z.way
 rp:Rd B partc 1 S pv z.parts
 sep:∀q a b,ov=.sl 1 q 0 a→pv=.sl 1 q 0 b→False
theorem Rd.two {B:Nat} {S:St} {v w:AV} {α β:Type} {e:α→List AV} {e':β→List AV} {l:List α} {m:List β} (h:Rd B e 1 S v l) (h':Rd B e' 2 S w m) {q a b:Nat} (h1:v=.sl 1 q 0 a) (h2:w=.sl 2 q 0 b):False:=by
 rcases h with ⟨rfl,_⟩ | ⟨o,rfl,_,_,ho⟩
 ·cases h1
 ·cases h1
  rcases h' with ⟨rfl,_⟩ | ⟨o',rfl,_,_,ho'⟩
  ·cases h2
  ·cases h2
   rw [ho] at ho';cases ho'
def Tj.enter (z:Tj) (a:Nat):Tj:=⟨z.met.set a (z.clock + 1:Nat),z.low.set a (z.clock + 1:Nat),z.inn.set a true,z.opn ++ [(a:Int)],z.way ++ [(a,0)],z.clock + 1,z.parts⟩
theorem xFa {B n T om ol oi a:Nat} {gv ov wv pv:AV} {S:St} {z:Tj} {K:AV→St→Prop} (h:TjS B n T om ol oi gv S ov wv pv z) (ha:a < n) (hc:z.clock < 2 ^ 40) (ho:z.opn.length < 2 ^ 30) (hw:z.way.length < 2 ^ 30)
  (hk:∀S' ov wv pv,TjS B n T om ol oi gv S' ov wv pv (z.enter a)→K (.tuple []) S'):Cal P g 278 [.ptr T 0 0,.int .i64 (a:Int)] S K:=by
 obtain ⟨lT,lm,ll,li,le,⟨i1,i2,i3,i4,i5,i6⟩,obj,rm,rl,ri,lenm,lenl,leni,ro,rw',rp,sep⟩:=h
 refine c278.in (by simp) ?_
 have e1:IntKind.i64.wrap ((z.clock:Int) + 1)=((z.clock + 1:Nat):Int):=by rw [xAa (by omega)];omega
 obtain ⟨xm,hxm⟩:∃ x,z.met[a]?=some x:=⟨_,xgG (by omega)⟩
 obtain ⟨xl,hxl⟩:∃ x,z.low[a]?=some x:=⟨_,xgG (by omega)⟩
 obtain ⟨xi,hxi⟩:∃ x,z.inn[a]?=some x:=⟨_,xgG (by omega)⟩
 have i1':=Ne.symm i1
 have i2':=Ne.symm i2
 have i3':=Ne.symm i3
 have i4':=Ne.symm i4
 have i5':=Ne.symm i5
 have i6':=Ne.symm i6
 simp [k278,obj,tjCells,e1]
 refine Dra.auto [] mix ?_ ?_
 ·kernel_rfl
 simp [classes,i1,i2,i3,i4,i5,i6,i1',i2',i3',i4',i5',i6',rm,rl,ri,xAd ha,hxm,hxl,intc]
 have lo:∀q,q < B→∀c,ov ≠ .sl 1 q 0 c:=by
  intro q hq c e
  rcases ro with ⟨h,_⟩ | ⟨o,h,h1,_⟩
  ·rw [e] at h;cases h
  ·rw [e] at h;cases h;omega
 have lw:∀q,q < B→∀c,wv ≠ .sl 2 q 0 c:=by
  intro q hq c e
  rcases rw' with ⟨h,_⟩ | ⟨o,h,h1,_⟩
  ·rw [e] at h;cases h
  ·rw [e] at h;cases h;omega
 have hS1:∃ S1,S1=(((S.set T (AObj.row 8 [[gv,AV.sl 1 om 0 n,AV.sl 1 ol 0 n,ov,AV.sl 1 oi 0 n,AV.int IntKind.i64 (z.clock + 1:Int),wv,pv]])).set om (AObj.row 1 ((els intc z.met).set a [AV.int IntKind.i64 (z.clock + 1:Int)]))).set ol (AObj.row 1 ((els intc z.low).set a [AV.int IntKind.i64 (z.clock + 1:Int)]))):=⟨_,rfl⟩
 obtain ⟨S1,hS1⟩:=hS1
 rw [← hS1]
 have a1:S1.obj T=some (.row 8 [[gv,AV.sl 1 om 0 n,AV.sl 1 ol 0 n,ov,AV.sl 1 oi 0 n,AV.int IntKind.i64 (z.clock + 1:Int),wv,pv]]):=by rw [hS1];simp [i1,i2]
 have a2:S1.obj om=some (.row 1 (els intc (z.met.set a (z.clock + 1:Nat)))):=by rw [hS1];simp [i4];rw [← xAg];rfl
 have a3:S1.obj ol=some (.row 1 (els intc (z.low.set a (z.clock + 1:Nat)))):=by rw [hS1];simp;rw [← xAg];rfl
 have a4:S1.obj oi=some (.row 1 (els boolc z.inn)):=by rw [hS1];simp [i3',i5',i6',ri]
 have a5:S1.next=S.next:=by rw [hS1];simp
 have a6:∀q,B≤q→S1.obj q=S.obj q:=by intro q hq;rw [hS1];simp [show ¬ q=T by omega,show ¬ q=om by omega,show ¬ q=ol by omega]
 refine xPu (B:=B) a1 (v:=ov) (l:=z.opn) (by simp) (ro.keep (by omega) fun q h1 _ _=>a6 q h1) lT (by omega) (by simp [room];omega) fun S2 b1 b2 b3 b4=>?_
 simp at b3
 have b5:S2.obj om=_:=(b4 om (by omega) i1' (lo om lm)).trans a2
 have b6:S2.obj ol=_:=(b4 ol (by omega) i2' (lo ol ll)).trans a3
 have b7:S2.obj oi=_:=(b4 oi (by omega) i3' (lo oi li)).trans a4
 simp [b3,b7,xAd ha,hxi,boolc]
 have c1:(S2.set oi (.row 1 ((els boolc z.inn).set a [AV.bool true]))).obj T=some (.row 8 [[gv,AV.sl 1 om 0 n,AV.sl 1 ol 0 n,AV.sl 1 (S1.next + 1) 0 (z.opn.length + 1),AV.sl 1 oi 0 n,AV.int IntKind.i64 (z.clock + 1:Int),wv,pv]]):=by simp [i3,b3]
 have hwk:Rd B stepc 2 (S2.set oi (.row 1 ((els boolc z.inn).set a [AV.bool true]))) wv z.way:=by
  refine rw'.keep (by simp;omega) fun q h1 h2 ⟨c,h3⟩=>?_
  simp [show ¬ q=oi by omega]
  rw [b4 q (by omega) (by omega) fun c' h4=>?_,a6 q h1]
  exact Rd.two ro rw' h4 h3
 refine xNJ (B:=B) c1 (v:=wv) (l:=z.way) (x:=(a,0)) (by simp) hwk lT (by simp;omega) (by simp [room];omega) fun S3 d1 d2 d3 d4=>?_
 simp at d1 d2 d3 d4
 have d5:∀q,q < S2.next→¬ q=T→¬ q=oi→(∀c,¬ wv=.sl 2 q 0 c)→S3.obj q=S2.obj q:=by
  intro q h1 h2 h3 h4
  have:=d4 q h1 h2 h4
  rw [if_neg h3] at this
  exact this
 simp
 refine hk S3 _ _ pv ⟨lT,lm,ll,li,by omega,⟨i1,i2,i3,i4,i5,i6⟩,d3,?_,?_,?_,by simp [Tj.enter,lenm],by simp [Tj.enter,lenl],by simp [Tj.enter,leni],.inr ⟨S1.next + 1,by simp [Tj.enter],by omega,by omega,?_⟩,.inr ⟨S2.next + 2,by simp [Tj.enter],by omega,by omega,d2⟩,?_,?_⟩
 ·rw [d5 om (by omega) i1' i5 (lw om lm),b5];rfl
 ·rw [d5 ol (by omega) i2' i6 (lw ol ll),b6];rfl
 ·have:=d4 oi (by omega) i3' (lw oi li)
  rw [if_pos rfl] at this
  rw [this,show [AV.bool true]=boolc true from rfl,xAg];rfl
 ·rw [d5 (S1.next + 1) (by omega) (by omega) (by omega) fun c e=>?_,b2]
  ·rfl
  ·rcases rw' with ⟨h,_⟩ | ⟨o,h,h1,h2,_⟩
   ·rw [e] at h;cases h
   ·rw [e] at h;cases h;omega
 ·refine rp.keep (by omega) fun q h1 h2 ⟨c,h3⟩=>?_
  rw [d5 q (by omega) (by omega) (by omega) fun c' h4=>Rd.two rp rw' h3 h4,b4 q (by omega) (by omega) fun c' h4=>sep q c' c h4 h3,a6 q h1]
 ·intro q x y h1 h2
  cases h1
  rcases rp with ⟨h,_⟩ | ⟨o,h,h3,h4,_⟩
  ·rw [h2] at h;cases h
  ·rw [h2] at h;cases h;omega
end Go.Proofs.YtnhfofmhkfdpgaaGreatDoor.Vm
