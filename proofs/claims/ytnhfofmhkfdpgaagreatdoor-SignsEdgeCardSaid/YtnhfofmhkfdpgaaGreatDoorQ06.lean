/- A part of the proof: Vp. -/
import Derived.LoopN
import Derived.OrdersIn
import Derived.RangeFuncIn
import Derived.RangeFuncRecord
import Derived.RangeFuncNested
import Derived.Test.YtnhfofmhkfdpgaaGreatDoorQ05
set_option linter.unusedVariables false
set_option linter.unusedSimpArgs false
set_option linter.constructorNameAsVariable false
namespace Go.Proofs.YtnhfofmhkfdpgaaGreatDoor.Vm
open Go Go.RowKit
def exitRel:Exit->VExit->Prop
 | .normal,.normal=>True
 | .exit id,.exit id'=>id=id'
 | .ret,.ret=>True
 | _,_=>False
def fence:Option Nat->Fence
 | none=>Fence.wide
 | some l=>Fence.wide.inRound l
@[simp] theorem xSm (ro:Option Nat):(fence ro).round=ro:=by cases ro <;> rfl
@[simp] theorem xCK (ro:Option Nat) (f:FuncId):(fence ro).fn f:=by cases ro <;> trivial
@[simp] theorem xKH (ro:Option Nat):(fence ro).depth=none:=by cases ro <;> rfl
theorem xMJ (ro:Option Nat) (k:Nat):(fence ro).room k:=by intro d hd;rw [xKH] at hd;cases hd
theorem xAz {ro:Option Nat} {n:Nat} {P:Program} {f:FuncId} {args:Array Value} {w:World} {R:Ending->World->Prop} (h:Calls P f args w R):CallsIn (fence ro) n P f args w R:=by
 cases ro with
 | none=>exact callsIn_wide.2 h
 | some l=>exact CallsIn.inRound l (callsIn_wide.2 h)
def mark (b:Nat):Deferred:={ target:=.collected b,args:=#[] }
inductive Marks (B:Nat) (C:Ctx):List Deferred->Prop
 | nil:Marks B C []
 | cons (b:Nat) (ds:List Deferred) (hB:B<=b) (hnb:¬ C.bad b) (hh:C.w.heap[b]?=some (.deferred (some []))) (hd:∀b',mark b' ∈ ds->b' ≠ b) (h:Marks B C ds):Marks B C (mark b :: ds)
theorem Marks.mono {B:Nat} {C C':Ctx} {ds:List Deferred} (h:Marks B C ds) (hL:Le C C'):Marks B C' ds:=by
 induction h with
 | nil=>exact .nil
 | cons b ds hB hnb hh hd h ih =>
  obtain ⟨h1,h2⟩:=hL.keep b (Array.getElem?_eq_some_iff.1 hh).1 hnb
  exact .cons b ds hB h2 (h1.trans hh) hd ih
def RoundOK (C:Ctx):Option Nat->Prop
 | none=>True
 | some l=>∃ r,C.w.heap[l]?=some (.loop r)
theorem RoundOK.mono {C C':Ctx} (hL:Le C C'):∀{ro:Option Nat},RoundOK C ro->RoundOK C' ro
 | none,_=>trivial
 | some l,⟨r,h⟩=>hL.loops l r h
structure AtC (g:Glob) (C:Ctx) (F:AFrame) (n B:Nat) (ro:Option Nat) (a:Act):Prop where
 size:a.tmps.size=n
 marks:Marks B C a.defers
 le:B<=C.w.heap.size
 round:RoundOK C ro
 rel:Rel C
 fr:FrameOK C F a
 lo:g.N<=C.base
 glob:g.G C.w
def PostC (C:Ctx) (n B:Nat) (Q:Res->Prop) (e:Exit) (a':Act) (w':World):Prop :=
 ∃ ve F' C',exitRel e ve/\Q (.code ve F' C'.S)/\C'.w=w'/\Le C C'/\Rel C'/\FrameOK C' F' a'/\a'.tmps.size=n/\Marks B C' a'.defers
def LoopWP (ro:Option Nat) (P:Program) (c:Code) (Q:Exit->Act->World->Prop) (a:Act) (w:World):Prop :=
 ∀(b:Frame) (k:List Item) (cs:List Frame),b.roundOf=ro->∃ e a' w',Q e a' w'/\ArrivesIn (Machine.fenced P (fence ro)) P (lone (b.atR a (.code c :: .inLoop c :: k)) cs w) b k cs e a' w'
def WP (ro:Option Nat) (P:Program) (c:Code) (Q:Exit->Act->World->Prop) (a:Act) (w:World):Prop :=
 match c with
 | .loop body=>LoopWP ro P body Q a w
 | c=>c.wpIn (fence ro) 0 P Q a w
theorem xBq {ro:Option Nat} {P:Program} {fr:Frame} {cs:List Frame} {w:World}:(lone fr cs w).fenced P (fence ro):=by
 cases ro with
 | none=>exact fenced_wide P _
 | some l =>
  intro g hg
  obtain ⟨h1,h2,h3,h4⟩:=fenced_wide P (lone fr cs w) g hg
  exact ⟨h1,h2,h3,h4⟩
theorem WP.wp {ro:Option Nat} {P:Program} {c:Code} {Q:Exit->Act->World->Prop} {a:Act} {w:World} (h:WP ro P c Q a w):c.wpIn (fence ro) 0 P Q a w:=by
 cases c with
 | loop body =>
  intro b k cs hb _ _
  obtain ⟨e,a',w',hq,harr⟩:=h b k cs (by simpa using hb)
  exact ⟨e,a',w',hq,.of_steps (.one xBq stepR_loop) harr⟩
 | _=>exact h
inductive OpsAt (P:Program) (n:Nat) (ops:Array Oper):List Nat->List VOper->Prop
 | nil:OpsAt P n ops [] []
 | cons (i:Nat) (o:Oper) (v:VOper) (idx:List Nat) (l:List VOper) (h:ops[i]?=some o) (hc:compOper P n ops o=some v) (ht:OpsAt P n ops idx l):OpsAt P n ops (i :: idx) (v :: l)
def W (P:Program) (g:Glob):Cfg->(Res->Prop)->Prop
 | .code c F S,Q=>∀(code:Code) (n B:Nat) (ro:Option Nat) (a:Act) (C:Ctx),compCode P n code=some c->C.S=S->AtC g C F n B ro a->WP ro P code (PostC C n B Q) a C.w
 | .ops l F S,Q=>∀(ops:Array Oper) (idx:List Nat) (n B:Nat) (ro:Option Nat) (a:Act) (C:Ctx) (Q':Exit->Act->World->Prop),(∀e a' w',PostC C n B Q e a' w'->Q' e a' w')->OpsAt P n ops idx l->C.S=S->AtC g C F n B ro a->wpOpsIn (fence ro) 0 P ops Q' idx a C.w
 | .call f args S,Q=>∀(vs:List Value) (C:Ctx),C.S=S->Rel C->VRs C vs args->g.N<=C.base->g.G C.w ->
   Calls P f vs.toArray C.w fun e w'=>∃ v av C',e=.returned v/\Q (.val av C'.S)/\C'.w=w'/\Le C C'/\Rel C'/\VR C' v av
def WOp (P:Program) (g:Glob) (o:VOper) (F:AFrame) (S:St) (R:AV->St->Prop):Prop :=
 ∀(ops:Array Oper) (i n B:Nat) (ro:Option Nat) (a:Act) (C:Ctx) (oper:Oper) (K:Act->World->Prop) (Q':Exit->Act->World->Prop),ops[i]?=some oper->compOper P n ops oper=some o->C.S=S->AtC g C F n B ro a ->
  (∀v y C',R y C'.S->Le C C'->Rel C'->VR C' v y->K (a.put o.dst v) C'.w)->wpOpIn (fence ro) 0 P ops Q' i K a C.w
theorem FrameOK.mono {C C':Ctx} {F:AFrame} {a:Act} (h:FrameOK C F a) (hL:Le C C'):FrameOK C' F a:=fun t=>(h t).mono hL
theorem FrameOK.put {C:Ctx} {F:AFrame} {a:Act} {v:Value} {x:AV} (h:FrameOK C F a) (hv:VR C v x) {d:Option Nat} (hd:∀t,d=some t->t < a.tmps.size):FrameOK C (put F d x) (a.put d v):=by
 intro t
 cases d with
 | none=>exact h t
 | some d =>
  have hlt:=hd d rfl
  simp only [Vm.put,upd,Act.put]
  by_cases e:t=d
  ·subst e
   rw [if_pos rfl]
   have:(a.tmps.setIfInBounds t v).getD t undef=v:=by simp [Array.getD,hlt]
   rw [this];exact hv
  ·rw [if_neg e]
   have:(a.tmps.setIfInBounds d v).getD t undef=a.tmps.getD t undef:=by
    simp only [Array.getD_eq_getD_getElem?,Array.getElem?_setIfInBounds]
    rw [if_neg (by omega)]
   rw [this];exact h t
theorem xQy (a:Act) (d:Option Nat) (v:Value):(a.put d v).tmps.size=a.tmps.size:=by cases d <;> simp [Act.put]
theorem xEF (a:Act) (d:Option Nat) (v:Value):(a.put d v).defers=a.defers:=by cases d <;> simp [Act.put]
theorem Glob.stays (g:Glob) {C C':Ctx} (hN:g.N<=C.base) (hG:g.G C.w) (hL:Le C C'):g.N<=C'.base/\g.G C'.w:=⟨by rw [hL.base];exact hN,g.keep _ _ hG (hL.below.mono hN)⟩
theorem PostC.from {C C1:Ctx} {n B:Nat} {Q:Res->Prop} {e:Exit} {a:Act} {w:World} (hL:Le C C1) (h:PostC C1 n B Q e a w):PostC C n B Q e a w:=by
 obtain ⟨ve,F',C',h1,h2,h3,h4,h5⟩:=h
 exact ⟨ve,F',C',h1,h2,h3,hL.trans h4,h5⟩
theorem xD4 {P:Program} {n:Nat} {ops:Array Oper} {o:Oper} {v:VOper} (hc:compOper P n ops o=some v) {C:Ctx} {F:AFrame} {a:Act} (hF:FrameOK C F a):Region.wanted o (yielded ops a.tmps)=wantedV F v.guard:=by
 unfold compOper at hc
 simp only [Option.bind_eq_bind,xoB] at hc
 obtain ⟨gd,hg,hd⟩:=hc
 have hvg:v.guard=gd:=by
  split at hd
  ·simp only [xoI] at hd;rw [<- hd]
  ·split at hd
   ·simp only [xoI] at hd;rw [<- hd]
   ·cases hd
 rw [hvg]
 unfold guardSlot at hg
 split at hg
 ·rename_i he
  simp only [xoI] at hg;subst hg
  simp [Region.wanted,he,wantedV]
 ·rename_i j b he
  split at hg
  ·rename_i t ht
   simp only [xoI] at hg;subst hg
   simp only [Region.wanted,he,wantedV,yielded,ht,Option.bind_some]
   have hv:=hF t
   by_cases hlt:t < a.tmps.size
   ·have e1:a.tmps[t]?=some (a.tmps.getD t undef):=by simp [Array.getD,hlt]
    rw [e1]
    generalize a.tmps.getD t undef=u at hv
    generalize F t=x at hv
    cases hv <;> simp
   ·have e1:a.tmps[t]?=none:=Array.getElem?_eq_none (Nat.le_of_not_lt hlt)
    have e2:a.tmps.getD t undef=undef:=by simp [Array.getD,hlt]
    rw [e1]
    rw [e2] at hv
    generalize F t=x at hv
    unfold undef at hv
    cases hv
    simp
  ·cases hg
theorem xA8 {P:Program} {n:Nat} {ops:Array Oper} {o:Oper} {v:VOper} (hc:compOper P n ops o=some v):((compOp P o.op).getD .bad=v.op)/\o.dst=v.dst/\∀t,v.dst=some t->t < n:=by
 unfold compOper at hc
 simp only [Option.bind_eq_bind,xoB] at hc
 obtain ⟨gd,hg,hd⟩:=hc
 split at hd
 ·rename_i hdst;simp only [xoI] at hd;subst hd;exact ⟨rfl,hdst,by simp⟩
 ·rename_i d hdst
  split at hd
  ·rename_i hlt;simp only [xoI] at hd;subst hd;exact ⟨rfl,hdst,by intro t ht;simp only [xoI] at ht;subst ht;exact hlt⟩
  ·cases hd
section
variable {P:Program} {g:Glob}
theorem xF6 {n:Nat} {ops:Array Oper} {l:List VOper} (h:mapOpt (compOper P n ops) ops.toList=some l):OpsAt P n ops (List.range ops.size) l:=by
 have key:∀(k:Nat) (os:List Oper) (l:List VOper),mapOpt (compOper P n ops) os=some l->(∀i o,os[i]?=some o->ops[k + i]?=some o)->OpsAt P n ops ((List.range os.length).map (k + ·)) l:=by
  intro k os
  induction os generalizing k with
  | nil=>intro l h _;simp [mapOpt] at h;subst h;exact .nil
  | cons o os ih =>
   intro l h hi
   rcases xAs h with ⟨h1,_⟩ | ⟨o',os',v,l',h1,rfl,h2,h3⟩
   ·cases h1
   ·cases h1
    have:=ih (k + 1) l' h3 (fun i o ho=>by have:=hi (i + 1) o (by simpa using ho);rwa [show k + (i + 1)=k + 1 + i by omega] at this)
    simp only [List.length_cons,List.range_succ_eq_map,List.map_cons,Nat.add_zero,List.map_map]
    refine .cons k o v _ _ (by simpa using hi 0 o (by simp)) h2 ?_
    have e:(List.range os.length).map ((fun x=>k + x) ∘ Nat.succ)=(List.range os.length).map (k + 1 + ·):=by
     apply List.map_congr_left;intro x _;simp;omega
    rw [e];exact this
 have:=key 0 ops.toList l h (fun i o ho=>by simpa using ho)
 simpa using this
theorem xCW {n:Nat} {code:Code} {x y:VCode} (h:compCode P n code=some (.seq x y)):∃ a b,code=.seq a b/\compCode P n a=some x/\compCode P n b=some y:=by
 cases code <;> simp only [compCode,Option.bind_eq_bind,xoB,xoI,reduceCtorEq,Option.map_eq_some_iff,and_false,exists_const,exists_false] at h
 case rangeFunc=>obtain ⟨_,_,h⟩:=h;split at h <;> cases h
 obtain ⟨p,h1,q,h2,h3⟩:=h;cases h3;exact ⟨_,_,rfl,h1,h2⟩
theorem xEG {n:Nat} {code:Code} {c:VX} {x y:VCode} (h:compCode P n code=some (.cond c x y)):∃ k a b,code=.cond k a b/\cx k=some c/\compCode P n a=some x/\compCode P n b=some y:=by
 cases code <;> simp only [compCode,Option.bind_eq_bind,xoB,xoI,reduceCtorEq,Option.map_eq_some_iff,and_false,exists_const,exists_false] at h
 case rangeFunc=>obtain ⟨_,_,h⟩:=h;split at h <;> cases h
 obtain ⟨p,h1,q,h2,r,h3,h4⟩:=h;cases h4;exact ⟨_,_,_,rfl,h1,h2,h3⟩
theorem xD5 {n:Nat} {code:Code} {id:Nat} {x:VCode} (h:compCode P n code=some (.block id x)):∃ a,code=.block id a/\compCode P n a=some x:=by
 cases code <;> simp only [compCode,Option.bind_eq_bind,xoB,xoI,reduceCtorEq,Option.map_eq_some_iff,and_false,exists_const,exists_false] at h
 case rangeFunc=>obtain ⟨_,_,h⟩:=h;split at h <;> cases h
 obtain ⟨p,h1,h2⟩:=h;cases h2;exact ⟨_,rfl,h1⟩
theorem xD6 {n:Nat} {code:Code} {x:VCode} (h:compCode P n code=some (.scope x)):∃ a,code=.scope a/\compCode P n a=some x:=by
 cases code <;> simp only [compCode,Option.bind_eq_bind,xoB,xoI,reduceCtorEq,Option.map_eq_some_iff,and_false,exists_const,exists_false] at h
 case rangeFunc=>obtain ⟨_,_,h⟩:=h;split at h <;> cases h
 obtain ⟨p,h1,h2⟩:=h;cases h2;exact ⟨_,rfl,h1⟩
theorem xEH {n:Nat} {code:Code} {x:VCode} (h:compCode P n code=some (.loop x)):∃ a,code=.loop a/\compCode P n a=some x:=by
 cases code <;> simp only [compCode,Option.bind_eq_bind,xoB,xoI,reduceCtorEq,Option.map_eq_some_iff,and_false,exists_const,exists_false] at h
 case rangeFunc=>obtain ⟨_,_,h⟩:=h;split at h <;> cases h
 obtain ⟨p,h1,h2⟩:=h;cases h2;exact ⟨_,rfl,h1⟩
theorem xA9 {n:Nat} {code:Code} {d:Bool} {l:List VOper} {af:List (List Nat)} (h:compCode P n code=some (.region d l af)):∃ id ops,code=.region id ops d/\mapOpt (compOper P n ops) ops.toList=some l/\af=if d then afts ops else []:=by
 cases code <;> simp only [compCode,Option.bind_eq_bind,xoB,xoI,reduceCtorEq,Option.map_eq_some_iff,and_false,exists_const,exists_false] at h
 case rangeFunc=>obtain ⟨_,_,h⟩:=h;split at h <;> cases h
 obtain ⟨p,h1,h2⟩:=h;cases h2;exact ⟨_,_,rfl,h1,rfl⟩
theorem xBe {f:Nat} (h:callable P f=true) (args:Array Value) (w:World):(callFunc f args).run P w=.ok (.enter f args) w:=by
 unfold callable at h
 split at h
 ·rename_i fn hf
  simp only [Bool.and_eq_true,bne_iff_ne,ne_eq] at h
  have h1 : ¬ (fn.name = "runtime.NumGoroutine") := h.1
  cases hb:fn.body with
  | none=>rw [hb] at h;simp at h
  | some c=>simp [callFunc,hf,h1,hb]
 ·cases h
def VOp.isCall:VOp->Bool
 | .callF _ _=>true
 | .callV _ _=>true
 | .callI _ _ _=>true
 | _=>false
theorem xBr {op:Op} {v:VOp} (hc:compOp P op=some v) (hv:v.isCall=true):∃ c,op=.call c/\((∃ f xs,v=.callF f xs/\c.callee=.value (.func f)/\mapOpt cx c.args.toList=some xs) \/
  (∃ x vx xs,v=.callV vx xs/\c.callee=.value x/\cx x=some vx/\mapOpt cx c.args.toList=some xs) \/ (∃ x vx name xs,v=.callI vx name xs/\c.callee=.invoke x name/\cx x=some vx/\mapOpt cx c.args.toList=some xs)):=by
 cases op
 case call c =>
  refine ⟨c,rfl,?_⟩
  simp only [compOp] at hc
  split at hc
  ·exfalso
   unfold compBuiltin at hc
   split at hc <;> simp only [Option.bind_eq_bind,xoB,xoI,reduceCtorEq] at hc
   ·obtain ⟨_,_,h⟩:=hc;split at h <;> simp only [xoI,reduceCtorEq] at h <;> subst h <;> simp [VOp.isCall] at hv
   ·obtain ⟨_,_,_,_,h⟩:=hc;split at h <;> simp only [reduceCtorEq,xoB] at h;obtain ⟨_,_,_,_,h⟩:=h;split at h <;> simp only [xoI,reduceCtorEq] at h;subst h;simp [VOp.isCall] at hv
   ·obtain ⟨_,_,_,_,h⟩:=hc;split at h <;> simp only [reduceCtorEq,xoB] at h;obtain ⟨_,_,h⟩:=h;split at h <;> simp only [xoI,reduceCtorEq] at h;subst h;simp [VOp.isCall] at hv
   ·obtain ⟨_,_,h⟩:=hc;split at h <;> simp only [reduceCtorEq,xoB] at h;obtain ⟨_,_,h⟩:=h;split at h <;> simp only [xoI,reduceCtorEq] at h;subst h;simp [VOp.isCall] at hv
   ·obtain ⟨_,_,h⟩:=hc;subst h;simp [VOp.isCall] at hv
   ·obtain ⟨_,_,h⟩:=hc;subst h;simp [VOp.isCall] at hv
  ·rename_i f hcl
   simp only [Option.bind_eq_bind,xoB,xoI] at hc
   obtain ⟨xs,hxs,h⟩:=hc
   exact .inl ⟨f,xs,h.symm,hcl,hxs⟩
  ·rename_i x hnf hcl
   simp only [Option.bind_eq_bind,xoB,xoI] at hc
   obtain ⟨vx,hx,xs,hxs,h⟩:=hc
   exact .inr (.inl ⟨x,vx,xs,h.symm,by assumption,hx,hxs⟩)
  ·rename_i x name hcl
   simp only [Option.bind_eq_bind,xoB,xoI] at hc
   obtain ⟨vx,hx,xs,hxs,h⟩:=hc
   exact .inr (.inr ⟨x,vx,name,xs,h.symm,by assumption,hx,hxs⟩)
 case makeMap t r=>cases r <;> simp only [compOp,xoI,reduceCtorEq] at hc;subst hc;simp [VOp.isCall] at hv
 all_goals exfalso
 case binOp op t x y t' =>
  simp only [compOp] at hc
  unfold compBin at hc
  split at hc <;> simp only [Option.bind_eq_bind,xoB,xoI,reduceCtorEq] at hc
  ·obtain ⟨_,_,_,_,h⟩:=hc;subst h;simp [VOp.isCall] at hv
  ·obtain ⟨_,_,_,_,_,_,h⟩:=hc;subst h;simp [VOp.isCall] at hv
  ·obtain ⟨_,_,_,_,h⟩:=hc;subst h;simp [VOp.isCall] at hv
  case h_7=>obtain ⟨_,_,_,_,_,_,_,_,h⟩:=hc;split at h <;> simp only [xoI,reduceCtorEq] at h;subst h;simp [VOp.isCall] at hv
  case h_8=>obtain ⟨_,_,_,_,_,_,_,_,h⟩:=hc;split at h <;> simp only [xoI,reduceCtorEq] at h;subst h;simp [VOp.isCall] at hv
  all_goals (obtain ⟨_,_,h⟩:=hc;split at h <;> simp only [xoB,xoI,reduceCtorEq] at h;obtain ⟨_,_,h⟩:=h;subst h;simp [VOp.isCall] at hv)
 all_goals (simp only [compOp,Option.bind_eq_bind,xoB,xoI,reduceCtorEq] at hc)
 all_goals first
  | (obtain ⟨_,_,h⟩:=hc;subst h;simp [VOp.isCall] at hv;done)
  | (obtain ⟨_,_,_,_,h⟩:=hc;subst h;simp [VOp.isCall] at hv;done)
  | (obtain ⟨_,_,_,_,_,_,h⟩:=hc;subst h;simp [VOp.isCall] at hv;done)
  | (obtain ⟨_,_,_,_,_,_,_,_,h⟩:=hc;subst h;simp [VOp.isCall] at hv;done)
  | (obtain ⟨_,_,_,_,_,_,_,_,_,_,h⟩:=hc;subst h;simp [VOp.isCall] at hv;done)
  | (obtain ⟨_,_,_,_,_,_,_,_,_,_,_,_,h⟩:=hc;subst h;simp [VOp.isCall] at hv;done)
  | skip
 case alloc t=>obtain ⟨_,_,h⟩:=hc;split at h <;> simp only [xoI,reduceCtorEq] at h;subst h;simp [VOp.isCall] at hv
 case buildSlice t len parts=>split at hc <;> simp only [xoB,reduceCtorEq] at hc;obtain ⟨_,_,_,_,_,_,h⟩:=hc;split at h <;> simp only [xoI,reduceCtorEq] at h;subst h;simp [VOp.isCall] at hv
 case convert s d x=>split at hc <;> simp only [xoB,xoI,reduceCtorEq] at hc;obtain ⟨_,_,h⟩:=hc;subst h;simp [VOp.isCall] at hv
 case makeInterface t x=>split at hc <;> simp only [xoB,xoI,reduceCtorEq] at hc;obtain ⟨_,_,h⟩:=hc;subst h;simp [VOp.isCall] at hv
 case makeSlice t l c=>split at hc <;> simp only [xoB,reduceCtorEq] at hc;obtain ⟨_,_,_,_,_,_,_,_,h⟩:=hc;split at h <;> simp only [xoI,reduceCtorEq] at h;subst h;simp [VOp.isCall] at hv
 case slice t x lo hi mx =>
  obtain ⟨_,_,_,_,h⟩:=hc
  split at h <;> (try simp only [xoB,reduceCtorEq] at h)
  ·obtain ⟨_,_,h⟩:=h;split at h <;> simp only [xoI,reduceCtorEq] at h;subst h;simp [VOp.isCall] at hv
  ·split at h <;> simp only [xoI,reduceCtorEq] at h;subst h;simp [VOp.isCall] at hv
  ·obtain ⟨_,_,h⟩:=h;split at h <;> simp only [xoI,reduceCtorEq] at h;subst h;simp [VOp.isCall] at hv
 case fieldAddr t x i=>obtain ⟨_,_,_,_,h⟩:=hc;split at h <;> simp only [xoB,xoI,reduceCtorEq] at h;obtain ⟨_,_,h⟩:=h;subst h;simp [VOp.isCall] at hv
 case indexAddr t x i =>
  split at hc <;> simp only [xoB,reduceCtorEq] at hc
  all_goals (obtain ⟨_,_,h⟩:=hc;split at h <;> simp only [xoB,xoI,reduceCtorEq] at h;obtain ⟨_,_,_,_,h⟩:=h;subst h;simp [VOp.isCall] at hv)
 case index t x i=>split at hc <;> simp only [xoB,xoI,reduceCtorEq] at hc;obtain ⟨_,_,_,_,h⟩:=hc;subst h;simp [VOp.isCall] at hv
 case typeAssert x xt t ok=>obtain ⟨_,_,h⟩:=hc;split at h <;> simp only [xoB,xoI,reduceCtorEq] at h;obtain ⟨_,_,h⟩:=h;subst h;simp [VOp.isCall] at hv
theorem xBI {C:Ctx} {F:AFrame} {a:Act} (hF:FrameOK C F a) {o:Oper} {vo:VOp} (hc:compOp P o.op=some vo) {f:Nat} {args:List AV} (hcal:callee vo F=some (f,args)) (hf:callable P f=true) :
  ∃ vs,(execOp a.eval o).run P C.w=.ok (.enter f (vs:List Value).toArray) C.w/\VRs C vs args:=by
 unfold callee at hcal
 split at hcal
 ·rename_i f' xs
  simp only [xoI,Prod.mk.injEq] at hcal
  obtain ⟨rfl,rfl⟩:=hcal
  obtain ⟨c,hop,⟨f2,xs2,h1,hcl,hxs⟩ | ⟨x,vx,xs2,h1,_⟩ | ⟨x,vx,nm,xs2,h1,_⟩⟩:=xBr hc rfl
  ·cases h1
   have hv:=xAI hF hxs
   refine ⟨c.args.toList.map a.eval,?_,hv⟩
   have e1:c.args.map a.eval=(c.args.toList.map a.eval).toArray:=by apply Array.ext';simp
   have e2:a.eval (.func f')=.func (.func f') #[] #[]:=rfl
   simp only [execOp,hop,resolve,hcl,Sem.run_bind,e2,Deferred.ofValue,Sem.run_pure,Result.andThen_ok,invoke,e1]
   simp [xBe hf]
  ·cases h1
  ·cases h1
 ·rename_i x xs
  split at hcal
  ·rename_i f' first captured hx
   simp only [xoI,Prod.mk.injEq] at hcal
   obtain ⟨rfl,rfl⟩:=hcal
   obtain ⟨c,hop,⟨f2,xs2,h1,_⟩ | ⟨x',vx,xs2,h1,hcl,hcx,hxs⟩ | ⟨x',vx,nm,xs2,h1,_⟩⟩:=xBr hc rfl
   ·cases h1
   ·cases h1
    have hv:=xAI hF hxs
    have hfv:=xAf hF hcx
    rw [hx] at hfv
    generalize hv':a.eval x'=v at hfv
    cases hfv
    rename_i va vc ha hcp
    refine ⟨va ++ c.args.toList.map a.eval ++ vc,?_,(ha.append hv).append hcp⟩
    have e1:c.args.map a.eval=(c.args.toList.map a.eval).toArray:=by apply Array.ext';simp
    simp only [execOp,hop,resolve,hcl,Sem.run_bind,hv',Deferred.ofValue,Sem.run_pure,Result.andThen_ok,invoke,e1]
    rw [xBe hf]
    simp
   ·cases h1
  ·cases hcal
 ·cases hcal
theorem xH2 {C:Ctx} {F:AFrame} {a:Act} (hF:FrameOK C F a) {o:Oper} {x:VX} {name:String} {xs:List VX} (hc:compOp P o.op=some (.callI x name xs)) {t p i q f:Nat} (hx:x.eval F=.iface t (.ptr p i q))
  (hm:∀ad w,(method (P.types.size + Made.depth) t (.pointer (some ad)) name).run P w=.ok (f,.pointer (some ad)) w) (hf:callable P f=true) :
  ∃ vs,(execOp a.eval o).run P C.w=.ok (.enter f (vs:List Value).toArray) C.w/\VRs C vs (.ptr p i q :: xs.map (VX.eval F)):=by
 obtain ⟨c,hop,⟨f2,xs2,h1,_⟩ | ⟨x',vx,xs2,h1,_⟩ | ⟨x',vx,nm,xs2,h1,hcl,hcx,hxs⟩⟩:=xBr hc rfl
 ·cases h1
 ·cases h1
 ·cases h1
  have hv:=xAI hF hxs
  have hfv:=xAf hF hcx
  rw [hx] at hfv
  generalize hv':a.eval x'=v at hfv
  cases hfv
  rename_i u hu
  have hu':=hu
  cases hu
  rename_i l hl
  refine ⟨.pointer (some ⟨l.blk,l.off + i * l.sz + q,none⟩) :: c.args.toList.map a.eval,?_,.cons _ _ _ _ hu' hv⟩
  have e1:c.args.map a.eval=(c.args.toList.map a.eval).toArray:=by apply Array.ext';simp
  simp only [execOp,hop,resolve,hcl,Sem.run_bind,hv',Sem.run_pure,Result.andThen_ok,invoke,e1]
  simp [callMethod,hm,xBe hf]
  rw [List.take_of_length_le (by simp)]
end
end Go.Proofs.YtnhfofmhkfdpgaaGreatDoor.Vm
