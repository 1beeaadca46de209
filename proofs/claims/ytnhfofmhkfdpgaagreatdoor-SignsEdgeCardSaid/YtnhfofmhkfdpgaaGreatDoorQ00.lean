/- A part of the proof: Va Vb Vc. -/
import Derived.Calls
import Derived.Below
set_option linter.unusedVariables false
set_option linter.unusedSimpArgs false
set_option linter.constructorNameAsVariable false
namespace Go.Proofs.YtnhfofmhkfdpgaaGreatDoor.Vm
open Go Go.RowKit
theorem xoB {α:Type _} {β:Type _} {o:Option α} {f:α->Option β} {b:β}:o.bind f=some b ↔ ∃ a,o=some a/\f a=some b:=Option.bind_eq_some_iff
theorem xoI {α:Type _} (a b:α):(some a=some b)=(a=b):=Option.some.injEq a b
theorem xgS {α:Type _} {l:List α} {i:Nat} {a:α} (e:l[i]?=some a):∃ h:i < l.length,l[i]=a:=List.getElem?_eq_some_iff.1 e
theorem xmG {α:Type _} {l:List α} {i:Nat} {a:α} (e:l[i]?=some a):a ∈ l:=List.mem_of_getElem? e
theorem xgG {α:Type _} {l:List α} {i:Nat} (h:i < l.length):l[i]?=some l[i]:=List.getElem?_eq_getElem h
inductive AV where
 | int (k:IntKind) (n:Int)
 | bool (b:Bool)
 | str (s:ByteArray)
 | nilptr
 | ptr (o i off:Nat)
 | fptr (cells:List AV) (off:Nat)
 | nilsl
 | fsl (sz:Nat) (es:List (List AV))
 | sl (sz o off len:Nat)
 | asl (sz o i off len:Nat)
 | nilmap
 | map (o:Nat)
 | nilfunc
 | func (fn:Fn) (first captured:List AV)
 | niliface
 | iface (t:Nat) (v:AV)
 | agg (cs:List AV)
 | tuple (vs:List AV)
 | yield (o:Nat)
 | anyi (k:IntKind)
 deriving Inhabited
def AV.cells:AV->List AV
 | .agg cs=>cs
 | x=>[x]
mutual
def AV.solid:AV->Bool
 | .ptr _ _ _=>false
 | .fptr _ _=>false
 | .sl _ _ _ _=>false
 | .asl _ _ _ _ _=>false
 | .map _=>false
 | .yield _=>false
 | .func _ a b=>solids a && solids b
 | .iface _ v=>v.solid
 | .agg cs=>solids cs
 | .tuple vs=>solids vs
 | .int _ _=>true
 | .bool _=>true
 | .str _=>true
 | .nilptr=>true
 | .nilsl=>true
 | .fsl _ _=>true
 | .nilmap=>true
 | .nilfunc=>true
 | .niliface=>true
 | .anyi _=>true
def solids:List AV->Bool
 | []=>true
 | x :: xs=>x.solid && solids xs
end
abbrev AV.none:AV:=.tuple []
inductive VExit where
 | normal
 | exit (id:Nat)
 | ret
 deriving DecidableEq,Inhabited
inductive LSt where
 | ready
 | busy
 | done (e:VExit)
 | over
 deriving Inhabited
abbrev AFrame:=Nat->AV
def upd (F:AFrame) (d:Nat) (v:AV):AFrame:=fun t=>if t=d then v else F t
def put (F:AFrame) (d:Option Nat) (v:AV):AFrame:=match d with | some d=>upd F d v | Option.none=>F
inductive AObj where
 | row (sz:Nat) (es:List (List AV))
 | map (es:List (AV × AV))
 | loop (n:Nat) (ps:Array Nat) (F:Nat->AV) (asg body:Code) (st:LSt)
 deriving Inhabited
structure St where
 next:Nat
 obj:Nat->Option AObj
def St.empty:St:=⟨0,fun _=>Option.none⟩
def St.new (S:St) (x:AObj):St:=⟨S.next + 1,fun o=>if o=S.next then some x else S.obj o⟩
def St.set (S:St) (o:Nat) (x:AObj):St:=⟨S.next,fun q=>if q=o then some x else S.obj q⟩
def St.drop (S:St) (o:Nat):St:=⟨S.next,fun q=>if q=o then Option.none else S.obj q⟩
inductive VX where
 | t (n:Nat)
 | c (v:AV)
 deriving Inhabited
def VX.eval (F:AFrame):VX->AV
 | .t n=>F n
 | .c v=>v
inductive EK where
 | int (k:IntKind) | str | bool
 deriving Inhabited,DecidableEq
def EK.fits:EK->AV->Bool
 | .int k,.int k' _=>decide (k'=k)
 | .str,.str _=>true
 | .bool,.bool _=>true
 | _,_=>false
def fitsAll:List EK->List AV->Bool
 | [],[]=>true
 | k :: ks,x :: xs=>k.fits x && fitsAll ks xs
 | _,_=>false
inductive PK where
 | move | pick
 | build (zero:List AV) (places:List (Nat × Nat))
 | ibin (op:BinOp) | bbin (neg:Bool) | sbin (op:BinOp) | ptrNil (neg:Bool) | ifNil (neg:Bool) | cellsEq (neg:Bool) (ks:List EK)
 | un (op:UnOp)
 | convInt (k:IntKind)
 | iface (t:Nat)
 | mkfunc (fn:Fn) (nfirst:Nat)
 | extract (i:Nat)
 | field (agg:Bool) (off sz:Nat)
 | fieldAddr (off:Nat)
 | indexStr
 | indexAddr (sz:Nat) | indexAddrArr (sz len:Nat)
 | lenStr | lenS | lenArr (n:Nat) | minI | maxI
 | nilCheck
 | slice (sz:Nat) (lo hi mx:Bool)
 | sliceStr (lo hi:Bool)
 | sliceArr (sz n:Nat) (lo hi mx:Bool)
 | assert (t:Nat) (ok:Bool) (zero:AV)
 deriving Inhabited
inductive KK where
 | int | str | bool
 | iface (ts:List (Nat × List EK))
 deriving Inhabited,DecidableEq
inductive SK where
 | box
 | alloc (zero:List AV)
 | buildSlice (zero:List AV) (sz len:Nat) (idx:List Nat)
 | load (agg:Bool) (sz:Nat)
 | store (sz:Nat)
 | makeSlice (zero:List AV) (sz bytes:Nat)
 | append (sz bytes:Nat)
 | copy (sz:Nat)
 | clear (zero:List AV)
 | makeMap | mapUpdate (kk:KK)
 | lookup (kk:KK) (zero:AV) (ok:Bool)
 | lenMap
 deriving Inhabited
inductive VOp where
 | pk (k:PK) (xs:List VX)
 | sk (k:SK) (xs:List VX)
 | callF (f:Nat) (xs:List VX)
 | callV (x:VX) (xs:List VX)
 | callI (x:VX) (name:String) (xs:List VX)
 | eqNil (neg:Bool) (x:VX)
 | bad
 deriving Inhabited
structure VOper where
 dst:Option Nat
 op:VOp
 guard:Option (Nat × Bool)
 deriving Inhabited
inductive VCode where
 | skip
 | region (draw:Bool) (ops:List VOper) (aft:List (List Nat))
 | seq (a b:VCode)
 | cond (x:VX) (a b:VCode)
 | block (id:Nat) (c:VCode)
 | loop (c:VCode)
 | exit (id:Nat)
 | ret
 | label
 | scope (c:VCode)
 | bad
 | rangeFunc (n:Nat) (x:VX) (ps:Array Nat) (asg body:Code)
 deriving Inhabited
inductive VRes where
 | tmp (t:Nat)
 | cell (t:Nat) (agg:Bool) (sz:Nat)
 deriving Inhabited
structure VFunc where
 ntmps:Nat
 results:List VRes
 code:VCode
 deriving Inhabited
def ibin (op:BinOp) (k:IntKind) (a b:Int):Option AV :=
 match op with
 | .add=>some (.int k (k.wrap (a + b)))
 | .sub=>some (.int k (k.wrap (a - b)))
 | .mul=>some (.int k (k.wrap (a * b)))
 | .quo=>if b=0 then Option.none else some (.int k (k.wrap (a.tdiv b)))
 | .rem=>if b=0 then Option.none else some (.int k (a.tmod b))
 | .and=>some (.int k (k.wrap (BitVec.ofInt k.bits a &&& BitVec.ofInt k.bits b).toNat))
 | .or=>some (.int k (k.wrap (BitVec.ofInt k.bits a ||| BitVec.ofInt k.bits b).toNat))
 | .xor=>some (.int k (k.wrap (BitVec.ofInt k.bits a ^^^ BitVec.ofInt k.bits b).toNat))
 | .andNot=>some (.int k (k.wrap (BitVec.ofInt k.bits a &&& ~~~(BitVec.ofInt k.bits b)).toNat))
 | .eql=>some (.bool (a == b))
 | .neq=>some (.bool (a != b))
 | .lss=>some (.bool (decide (a < b)))
 | .leq=>some (.bool (decide (a<=b)))
 | .gtr=>some (.bool (decide (a > b)))
 | .geq=>some (.bool (decide (a ≥ b)))
 | _=>Option.none
def ishift (op:BinOp) (k:IntKind) (a b:Int):Option AV :=
 if b < 0 then Option.none else
 match op with
 | .shl=>some (.int k (k.wrap (a * 2 ^ (min b.toNat k.bits))))
 | .shr=>some (.int k (a.fdiv (2 ^ (min b.toNat k.bits))))
 | _=>Option.none
def sbin (op:BinOp) (a b:ByteArray):Option AV :=
 match op with
 | .eql=>some (.bool (a.toList == b.toList))
 | .neq=>some (.bool !(a.toList == b.toList))
 | .add=>if ((a.size + b.size:Nat):Int) > IntKind.i64.max then Option.none else some (.str (a ++ b))
 | _=>Option.none
def over (cells:List AV) (off:Nat):List AV->List AV
 | []=>cells
 | v :: vs=>over (cells.set off v) (off + 1) vs
def fillV (cells:List AV):List ((Nat × Nat) × AV)->Option (List AV)
 | []=>some cells
 | ((off,size),v) :: rest=>if v.cells.length ≠ size \/ off + v.cells.length > cells.length then Option.none else fillV (over cells off v.cells) rest
def scalarEq:AV->AV->Option Bool
 | .int k a,.int k' b=>if k=k' then some (a == b) else Option.none
 | .bool a,.bool b=>some (a == b)
 | .str a,.str b=>some (a == b)
 | _,_=>Option.none
def valEq (x y:AV):Bool:=match scalarEq x y with
 | some b=>b
 | Option.none=>false
def eqCells:List AV->List AV->Bool
 | x :: xs,y :: ys=>valEq x y && eqCells xs ys
 | _,_=>true
def partV (agg:Bool) (cells:List AV) (off sz:Nat):Option AV :=
 if agg then (if off + sz<=cells.length then some (.agg ((cells.drop off).take sz)) else Option.none) else cells[off]?
def bnds (lo hi mx:Bool) (n m:Nat) (xs:List AV):Option (Nat × Nat × Nat) :=
 match lo,hi,mx,xs with
 | false,false,false,[]=>some (0,n,m)
 | true,false,false,[.int _ l]=>if 0<=l/\l<=n then some (l.toNat,n,m) else Option.none
 | false,true,false,[.int _ h]=>if 0<=h/\h<=m then some (0,h.toNat,m) else Option.none
 | true,true,false,[.int _ l,.int _ h]=>if 0<=l/\l<=h/\h<=m then some (l.toNat,h.toNat,m) else Option.none
 | false,true,true,[.int _ h,.int _ x]=>if 0<=h/\h<=x/\x<=m then some (0,h.toNat,x.toNat) else Option.none
 | true,true,true,[.int _ l,.int _ h,.int _ x]=>if 0<=l/\l<=h/\h<=x/\x<=m then some (l.toNat,h.toNat,x.toNat) else Option.none
 | _,_,_,_=>Option.none
def lenV:AV->Option Nat
 | .nilsl=>some 0
 | .fsl _ es=>some es.length
 | .sl _ _ _ len=>some len
 | .asl _ _ _ _ len=>some len
 | _=>Option.none
def foldI (f:Int->Int->Int) (k:IntKind) (x:Int):List AV->Option AV
 | []=>some (.int k x)
 | .int k' y :: ys=>if k'=k then foldI f k (f x y) ys else Option.none
 | _=>Option.none
def pk:PK->List AV->Option AV
 | .move=>fun xs=>match xs with
  | [x]=>some x
  | _=>Option.none
 | .pick=>fun xs=>match xs with
  | [.bool c,a,b]=>some (if c then a else b)
  | _=>Option.none
 | .build zero places=>fun xs=>if places.length=xs.length then (fillV zero (places.zip xs)).map .agg else Option.none
 | .ibin op=>fun xs=>match xs with
  | [.int k a,.int k' b]=>if op=.shl \/ op=.shr then ishift op k a b else if k=k' then ibin op k a b else Option.none
  | _=>Option.none
 | .bbin neg=>fun xs=>match xs with
  | [.bool a,.bool b]=>some (.bool (if neg then !(a == b) else a == b))
  | _=>Option.none
 | .sbin op=>fun xs=>match xs with
  | [.str a,.str b]=>sbin op a b
  | _=>Option.none
 | .ptrNil neg=>fun xs=>match xs with
  | [.nilptr]=>some (.bool !neg)
  | [.ptr _ _ _]=>some (.bool neg)
  | [.fptr _ _]=>some (.bool neg)
  | _=>Option.none
 | .ifNil neg=>fun xs=>match xs with
  | [.iface _ _]=>some (.bool neg)
  | [.niliface]=>some (.bool !neg)
  | _=>Option.none
 | .cellsEq neg ks=>fun xs=>match xs with
  | [.agg xs,.agg ys]=>if fitsAll ks xs=true/\fitsAll ks ys=true then some (.bool (if neg then !(eqCells xs ys) else eqCells xs ys)) else Option.none
  | _=>Option.none
 | .un op=>fun xs=>match op,xs with
  | .not,[.bool b]=>some (.bool !b)
  | .neg,[.int k n]=>some (.int k (k.wrap (0 - n)))
  | _,_=>Option.none
 | .convInt k=>fun xs=>match xs with
  | [.int _ n]=>some (.int k (k.wrap n))
  | _=>Option.none
 | .iface t=>fun xs=>match xs with
  | [x]=>some (.iface t x)
  | _=>Option.none
 | .mkfunc fn n=>fun xs=>if n<=xs.length then some (.func fn (xs.take n) (xs.drop n)) else Option.none
 | .extract i=>fun xs=>match xs with
  | [.tuple vs]=>vs[i]?
  | _=>Option.none
 | .field agg off sz=>fun xs=>match xs with
  | [.agg cs]=>partV agg cs off sz
  | _=>Option.none
 | .fieldAddr off=>fun xs=>match xs with
  | [.ptr o i q]=>some (.ptr o i (q + off))
  | [.fptr cs q]=>some (.fptr cs (q + off))
  | _=>Option.none
 | .indexStr=>fun xs=>match xs with
  | [.str s,.int _ i]=>if 0<=i then (s[i.toNat]?).map fun b=>.int .u8 b.toNat else Option.none
  | _=>Option.none
 | .indexAddr sz=>fun xs=>match xs with
  | [.fsl sz' es,.int _ i]=>if sz=sz'/\0<=i then (es[i.toNat]?).map fun e=>.fptr e 0 else Option.none
  | [.sl sz' o off len,.int _ i]=>if sz=sz'/\0<=i/\i < len then some (.ptr o (off + i.toNat) 0) else Option.none
  | [.asl sz' o j off len,.int _ i]=>if sz=sz'/\0<=i/\i < len then some (.ptr o j (off + i.toNat * sz)) else Option.none
  | _=>Option.none
 | .indexAddrArr sz len=>fun xs=>match xs with
  | [.ptr o j off,.int _ i]=>if 0<=i/\i < len then some (.ptr o j (off + i.toNat * sz)) else Option.none
  | [.fptr cs off,.int _ i]=>if 0<=i/\i < len then some (.fptr cs (off + i.toNat * sz)) else Option.none
  | _=>Option.none
 | .lenStr=>fun xs=>match xs with
  | [.str s]=>some (.int .i64 (s.size:Int))
  | _=>Option.none
 | .lenS=>fun xs=>match xs with
  | [x]=>match lenV x with
   | some n=>some (.int .i64 (n:Int))
   | Option.none=>Option.none
  | _=>Option.none
 | .lenArr n=>fun xs=>match xs with
  | [_]=>some (.int .i64 n)
  | _=>Option.none
 | .minI=>fun xs=>match xs with
  | .int k x :: ys=>foldI (fun x y=>if y < x then y else x) k x ys
  | _=>Option.none
 | .maxI=>fun xs=>match xs with
  | .int k x :: ys=>foldI (fun x y=>if y > x then y else x) k x ys
  | _=>Option.none
 | .nilCheck=>fun xs=>match xs with
  | [.ptr o i q]=>some (.ptr o i q)
  | [.fptr cs q]=>some (.fptr cs q)
  | [.func (.func f) a b]=>some (.func (.func f) a b)
  | _=>Option.none
 | .slice sz lo hi mx=>fun xs=>match xs with
  | .nilsl :: xs=>(bnds lo hi mx 0 0 xs).map fun _=>.nilsl
  | .fsl sz' es :: xs=>if sz=sz' then (bnds lo hi mx es.length es.length xs).bind fun r=>if mx/\r.2.2=0 then some .nilsl else some (.fsl sz ((es.drop r.1).take (r.2.1 - r.1))) else Option.none
  | .sl sz' o off len :: xs=>if sz=sz' then (bnds lo hi mx len len xs).bind fun r=>if mx/\r.2.2=0 then some .nilsl else some (.sl sz o (off + r.1) (r.2.1 - r.1)) else Option.none
  | _=>Option.none
 | .sliceStr lo hi=>fun xs=>match xs with
  | .str s :: xs=>(bnds lo hi false s.size s.size xs).map fun r=>.str (s.extract r.1 r.2.1)
  | _=>Option.none
 | .sliceArr sz n lo hi mx=>fun xs=>match xs with
  | .ptr o i q :: xs=>(bnds lo hi mx n n xs).map fun r=>.asl sz o i (q + r.1 * sz) (r.2.1 - r.1)
  | _=>Option.none
 | .assert t ok zero=>fun xs=>match xs with
  | [.iface t' v]=>if t=t' then some (if ok then .tuple [v,.bool true] else v) else if ok then some (.tuple [zero,.bool false]) else Option.none
  | [.niliface]=>if ok then some (.tuple [zero,.bool false]) else Option.none
  | _=>Option.none
def cutL {α:Type} (n:Nat):Nat->List α->List (List α)
 | 0,_=>[]
 | k + 1,l=>l.take n :: cutL n k (l.drop n)
def elems (S:St):AV->Option (List (List AV))
 | .nilsl=>some []
 | .fsl _ es=>some es
 | .sl sz o off len=>if len=0 then some [] else match S.obj o with
  | some (.row sz' es)=>if sz=sz'/\off + len<=es.length then some ((es.drop off).take len) else Option.none
  | _=>Option.none
 | .asl sz o i off len=>match S.obj o with
  | some (.row _ es)=>match es[i]? with
   | some e=>if off + len * sz<=e.length then some (cutL sz len (e.drop off)) else Option.none
   | Option.none=>Option.none
  | _=>Option.none
 | _=>Option.none
def AV.one:AV->Bool
 | .agg _=>false
 | .tuple _=>false
 | _=>true
def okEl (sz:Nat) (e:List AV):Bool:=e.length == sz && e.all AV.one
def setCells (S:St) (o i off:Nat) (vs:List AV):Option St :=
 match S.obj o with
 | some (.row sz es)=>match es[i]? with
  | some e=>if off + vs.length<=e.length then some (S.set o (.row sz (es.set i (over e off vs)))) else Option.none
  | Option.none=>Option.none
 | _=>Option.none
def kindOf:AV->Option EK
 | .int k _=>some (.int k)
 | .str _=>some .str
 | .bool _=>some .bool
 | _=>Option.none
def sameKinds:List AV->List AV->Bool
 | [],[]=>true
 | x :: xs,y :: ys=>(match kindOf x,kindOf y with
  | some a,some b=>decide (a=b)
  | _,_=>false) && sameKinds xs ys
 | _,_=>false
def keyEq:AV->AV->Option Bool
 | .iface t (.agg xs),.iface t' (.agg ys)=>if t=t' then (if sameKinds xs ys=true then some (eqCells xs ys) else Option.none) else some false
 | a,b=>scalarEq a b
def KK.fits:KK->AV->Bool
 | .int,.int _ _=>true
 | .str,.str _=>true
 | .bool,.bool _=>true
 | .iface ts,.iface t (.agg cs)=>ts.any fun p=>decide (p.1=t) && fitsAll p.2 cs
 | _,_=>false
def findV (k:AV):List (AV × AV)->Option (Option AV)
 | []=>some Option.none
 | (q,v) :: rest=>match keyEq k q with
  | some true=>some (some v)
  | some false=>findV k rest
  | Option.none=>Option.none
def putV (k v:AV):List (AV × AV)->Option (List (AV × AV))
 | []=>some [(k,v)]
 | (q,u) :: rest=>match keyEq k q with
  | some true=>some ((k,v) :: rest)
  | some false=>(putV k v rest).map ((q,u) :: ·)
  | Option.none=>Option.none
def room:Nat:=2147483648
def sk:SK->List AV->St->Option (AV × St)
 | .box=>fun xs S=>match xs with
  | [x]=>if 0 < x.cells.length then some (.ptr S.next 0 0,S.new (.row x.cells.length [x.cells])) else Option.none
  | _=>Option.none
 | .alloc zero=>fun xs S=>match xs with
  | []=>some (.ptr S.next 0 0,S.new (.row zero.length [zero]))
  | _=>Option.none
 | .buildSlice zero sz len idx=>fun xs S =>
  if idx.length=xs.length then
   (fillV (List.replicate len zero).flatten ((idx.map fun i=>(i * sz,sz)).zip xs)).map fun cells=>(.sl sz S.next 0 len,S.new (.row sz (cutL sz len cells)))
  else Option.none
 | .load agg sz=>fun xs S=>match xs with
  | [.ptr o i off]=>match S.obj o with
   | some (.row _ es)=>match es[i]? with
    | some e=>(partV agg e off sz).map fun v=>(v,S)
    | Option.none=>Option.none
   | _=>Option.none
  | [.fptr cs off]=>(partV agg cs off sz).map fun v=>(v,S)
  | _=>Option.none
 | .store sz=>fun xs S=>match xs with
  | [.ptr o i off,x]=>if okEl sz x.cells then (setCells S o i off x.cells).map fun S'=>(.tuple [],S') else Option.none
  | _=>Option.none
 | .makeSlice zero sz bytes=>fun xs S=>match xs with
  | [.int .i64 l,.int .i64 c]=>if l=c/\0<=l/\l<=room then some (.sl sz S.next 0 l.toNat,S.new (.row sz (List.replicate l.toNat zero))) else Option.none
  | _=>Option.none
 | .append sz bytes=>fun xs S=>match xs with
  | [x,y]=>match elems S y with
   | some ys =>
    if ys.length=0 then (if (lenV x).isSome then some (x,S) else Option.none) else
    if ys.length > room \/ ¬ (ys.all (okEl sz)) then Option.none else
    match x with
    | .nilsl=>some (.sl sz S.next 0 ys.length,S.new (.row sz ys))
    | .sl sz' o off len=>match S.obj o with
     | some (.row sz'' es)=>if sz=sz'/\sz'=sz''/\off + len<=es.length/\len + ys.length<=room then
       some (.sl sz S.next 0 (len + ys.length),(S.drop o).new (.row sz ((es.drop off).take len ++ ys))) else Option.none
     | _=>Option.none
    | _=>Option.none
   | Option.none=>Option.none
  | _=>Option.none
 | .copy sz=>fun xs S=>match xs with
  | [.sl sz' o off len,y]=>match S.obj o,elems S y with
   | some (.row sz'' es),some ys =>
    if sz=sz'/\sz'=sz''/\off + len<=es.length/\ys.all (okEl sz) then
     some (.int .i64 (min ys.length len:Nat),S.set o (.row sz (es.take off ++ ys.take len ++ es.drop (off + min ys.length len))))
    else Option.none
   | _,_=>Option.none
  | _=>Option.none
 | .clear zero=>fun xs S=>match xs with
  | [.sl sz o off len]=>match S.obj o with
   | some (.row sz' es)=>if sz=sz'/\okEl sz zero/\off + len<=es.length then some (.tuple [],S.set o (.row sz (es.take off ++ List.replicate len zero ++ es.drop (off + len)))) else Option.none
   | _=>Option.none
  | [.asl sz o i off len]=>if okEl sz zero then (setCells S o i off (List.replicate len zero).flatten).map fun S'=>(.tuple [],S') else Option.none
  | [.nilsl]=>some (.tuple [],S)
  | _=>Option.none
 | .makeMap=>fun xs S=>match xs with
  | []=>some (.map S.next,S.new (.map []))
  | _=>Option.none
 | .mapUpdate kk=>fun xs S=>match xs with
  | [.map o,k,v]=>match S.obj o with
   | some (.map es)=>if ¬ kk.fits k then Option.none else (putV k v es).map fun es'=>(.tuple [],S.set o (.map es'))
   | _=>Option.none
  | _=>Option.none
 | .lookup kk zero ok=>fun xs S=>match xs with
  | [.map o,k]=>match S.obj o with
   | some (.map es)=>if ¬ kk.fits k then Option.none else (findV k es).map fun r=>(match r with
    | some v=>if ok then .tuple [v,.bool true] else v
    | Option.none=>if ok then .tuple [zero,.bool false] else zero,S)
   | _=>Option.none
  | _=>Option.none
 | .lenMap=>fun xs S=>match xs with
  | [.map o]=>match S.obj o with
   | some (.map es)=>some (.int .i64 es.length,S)
   | _=>Option.none
  | _=>Option.none
def aop (o:VOp) (F:AFrame) (S:St):Option (AV × St) :=
 match o with
 | .pk k xs=>(pk k (xs.map (VX.eval F))).map fun v=>(v,S)
 | .sk k xs=>sk k (xs.map (VX.eval F)) S
 | _=>Option.none
def mapOpt {α β:Type} (f:α->Option β):List α->Option (List β)
 | []=>some []
 | x :: xs=>match f x,mapOpt f xs with
  | some y,some ys=>some (y :: ys)
  | _,_=>Option.none
def pict (S:St) (own:List Nat):Nat->AV->Option AV
 | 0,_=>Option.none
 | n + 1,v=>match v with
  | .int k n=>some (.int k n)
  | .bool b=>some (.bool b)
  | .str s=>some (.str s)
  | .nilptr=>some .nilptr
  | .nilsl=>some .nilsl
  | .fsl sz es=>some (.fsl sz es)
  | .nilmap=>some .nilmap
  | .nilfunc=>some .nilfunc
  | .niliface=>some .niliface
  | .anyi k=>some (.anyi k)
  | .iface t x=>(pict S own n x).map (.iface t)
  | .agg cs=>(mapOpt (pict S own n) cs).map .agg
  | .tuple vs=>(mapOpt (pict S own n) vs).map .tuple
  | .func fn a b=>match mapOpt (pict S own n) a,mapOpt (pict S own n) b with
   | some a,some b=>some (.func fn a b)
   | _,_=>Option.none
  | .sl sz o off len=>match own.idxOf? o with
   | some j=>some (.sl sz j off len)
   | Option.none=>match elems S (.sl sz o off len) with
    | some es=>(mapOpt (mapOpt (pict S own n)) es).map (.fsl sz)
    | Option.none=>Option.none
  | .asl sz o i off len=>match elems S (.asl sz o i off len) with
    | some es=>(mapOpt (mapOpt (pict S own n)) es).map (.fsl sz)
    | Option.none=>Option.none
  | _=>Option.none
end Go.Proofs.YtnhfofmhkfdpgaaGreatDoor.Vm
namespace Go.Proofs.YtnhfofmhkfdpgaaGreatDoor.Vm
open Go Go.RowKit
structure Loc where
 blk:Nat
 off:Nat
 sz:Nat
structure Ctx where
 w:World
 base:Nat
 av:Nat->Prop
 μ:Nat->Option Loc
 S:St
def Ctx.own (C:Ctx) (b:Nat):Prop:=∃ o l x,C.S.obj o=some x/\C.μ o=some l/\l.blk=b
def Ctx.bad (C:Ctx) (b:Nat):Prop:=(b < C.base/\C.av b) \/ C.own b
def Cells (w:World) (b q:Nat) (vs:List Value):Prop:=∀j v,vs[j]?=some v->w.cell? ⟨b,q + j,none⟩=some v
mutual
inductive VR (C:Ctx):Value->AV->Prop
 | int (k:IntKind) (n:Int):VR C (.int k n) (.int k n)
 | bool (b:Bool):VR C (.bool b) (.bool b)
 | str (s:ByteArray):VR C (.string s) (.str s)
 | nilptr:VR C (.pointer none) .nilptr
 | ptr (o i off:Nat) (l:Loc) (h:C.μ o=some l):VR C (.pointer (some ⟨l.blk,l.off + i * l.sz + off,none⟩)) (.ptr o i off)
 | fptr (b q off:Nat) (vs:List Value) (cells:List AV) (hc:Cells C.w b q vs) (hv:VRs C vs cells) (hso:∀x ∈ cells,x.solid=true) (hb:¬ C.bad b) (hl:b < C.w.heap.size) :
   VR C (.pointer (some ⟨b,q + off,none⟩)) (.fptr cells off)
 | nilsl (a:Option Addr):VR C (.slice a 0 0) .nilsl
 | fsl (b q cap sz:Nat) (vs:List Value) (es:List (List AV)) (hc:Cells C.w b q vs) (hs:∀e ∈ es,e.length=sz) (hv:VRs C vs es.flatten) (hso:∀x ∈ es.flatten,x.solid=true)
   (hb:¬ C.bad b) (hl:b < C.w.heap.size) (hcap:es.length<=cap):VR C (.slice (some ⟨b,q,none⟩) es.length cap) (.fsl sz es)
 | fnil (a:Option Addr) (cap sz:Nat):VR C (.slice a 0 cap) (.fsl sz [])
 | sl (sz o off len cap:Nat) (l:Loc) (c:Array Value) (e:TypeId) (f:Nat × Nat) (h:C.μ o=some l) (hz:l.sz=sz) (hh:C.w.heap[l.blk]?=some (.cells c e f))
   (hm:l.off + (off + cap) * sz<=c.size) (hcap:len<=cap):VR C (.slice (some ⟨l.blk,l.off + off * sz,none⟩) len cap) (.sl sz o off len)
 | slnil (a:Option Addr) (sz o off:Nat):VR C (.slice a 0 0) (.sl sz o off 0)
 | asl (sz o i off len cap:Nat) (l:Loc) (h:C.μ o=some l) (hcap:len<=cap):VR C (.slice (some ⟨l.blk,l.off + i * l.sz + off,none⟩) len cap) (.asl sz o i off len)
 | aslnil (a:Option Addr) (cap sz o i off:Nat):VR C (.slice a 0 cap) (.asl sz o i off 0)
 | nilmap:VR C (.map none) .nilmap
 | map (o:Nat) (l:Loc) (h:C.μ o=some l):VR C (.map (some l.blk)) (.map o)
 | nilfunc:VR C .nilFunc .nilfunc
 | func (fn:Fn) (a c:List Value) (xs ys:List AV) (ha:VRs C a xs) (hc:VRs C c ys):VR C (.func fn a.toArray c.toArray) (.func fn xs ys)
 | niliface:VR C .nilIface .niliface
 | anyi (k:IntKind) (n:Int):VR C (.int k n) (.anyi k)
 | iface (t:Nat) (v:Value) (x:AV) (h:VR C v x):VR C (.iface t v) (.iface t x)
 | agg (vs:List Value) (cs:List AV) (h:VRs C vs cs):VR C (.agg vs.toArray) (.agg cs)
 | tuple (vs:List Value) (cs:List AV) (h:VRs C vs cs):VR C (.tuple vs.toArray) (.tuple cs)
 | yield (o:Nat) (l:Loc) (h:C.μ o=some l):VR C (.func (.yield l.blk) #[] #[]) (.yield o)
inductive VRs (C:Ctx):List Value->List AV->Prop
 | nil:VRs C [] []
 | cons (v:Value) (x:AV) (vs:List Value) (xs:List AV) (h:VR C v x) (hs:VRs C vs xs):VRs C (v :: vs) (x :: xs)
end
structure Le (C C':Ctx):Prop where
 base:C'.base=C.base
 av:C'.av=C.av
 μ:∀o l,C.μ o=some l->C'.μ o=some l
 size:C.w.heap.size<=C'.w.heap.size
 cells:∀(b:Nat) (c:Array Value) (e:TypeId) (f:Nat × Nat),C.w.heap[b]?=some (Obj.cells c e f)->∃ (c':Array Value) (f':Nat × Nat),C'.w.heap[b]?=some (Obj.cells c' e f')/\c'.size=c.size
 keep:∀b,b < C.w.heap.size->¬ C.bad b->C'.w.heap[b]?=C.w.heap[b]?/\¬ C'.bad b
 below:Below C.base C.w C'.w
 loops:∀(b:Nat) (r:Loop),C.w.heap[b]?=some (.loop r)->∃ r',C'.w.heap[b]?=some (.loop r')
structure Le0 (C C':Ctx):Prop where
 μ:∀o l,C.μ o=some l->C'.μ o=some l
 size:C.w.heap.size<=C'.w.heap.size
 cells:∀(b:Nat) (c:Array Value) (e:TypeId) (f:Nat × Nat),C.w.heap[b]?=some (Obj.cells c e f)->∃ (c':Array Value) (f':Nat × Nat),C'.w.heap[b]?=some (Obj.cells c' e f')/\c'.size=c.size
 keep:∀b,b < C.w.heap.size->¬ C.bad b->(C'.w.heap[b]?=C.w.heap[b]? \/ ∃ ds,C.w.heap[b]?=some (.deferred ds))/\¬ C'.bad b
theorem Le.to0 {C C':Ctx} (h:Le C C'):Le0 C C':=⟨h.μ,h.size,h.cells,fun b h1 h2=>⟨.inl (h.keep b h1 h2).1,(h.keep b h1 h2).2⟩⟩
theorem Le.refl (C:Ctx):Le C C:=⟨rfl,rfl,fun _ _ h=>h,Nat.le_refl _,fun b c e f h=>⟨c,f,h,rfl⟩,fun b _ h=>⟨rfl,h⟩,Below.refl _ _,fun b r h=>⟨r,h⟩⟩
theorem Le.trans {A B C:Ctx} (h:Le A B) (k:Le B C):Le A C where
 base:=k.base.trans h.base
 av:=k.av.trans h.av
 μ o l hl:=k.μ o l (h.μ o l hl)
 size:=Nat.le_trans h.size k.size
 cells b c e f hb:=by
  obtain ⟨c1,f1,h1,s1⟩:=h.cells b c e f hb
  obtain ⟨c2,f2,h2,s2⟩:=k.cells b c1 e f1 h1
  exact ⟨c2,f2,h2,s2.trans s1⟩
 keep b hb hn:=by
  obtain ⟨e1,n1⟩:=h.keep b hb hn
  obtain ⟨e2,n2⟩:=k.keep b (Nat.lt_of_lt_of_le hb h.size) n1
  exact ⟨e2.trans e1,n2⟩
 below:=h.below.trans (h.base ▸ k.below)
 loops b r hb:=by
  obtain ⟨r1,h1⟩:=h.loops b r hb
  exact k.loops b r1 h1
theorem Cells.keep {w w':World} {b q:Nat} {vs:List Value} (h:Cells w b q vs) (e:w'.heap[b]?=w.heap[b]?):Cells w' b q vs:=by
 intro j v hj
 rw [<- h j v hj]
 exact World.cell?_of_block (w:=w) e
theorem Cells.keep0 {w w':World} {b q:Nat} {vs:List Value} (h:Cells w b q vs) (e:w'.heap[b]?=w.heap[b]? \/ ∃ ds,w.heap[b]?=some (.deferred ds)):Cells w' b q vs:=by
 rcases e with e | ⟨ds,e⟩
 ·exact h.keep e
 ·intro j v hj
  have:=h j v hj
  simp [World.cell?,e] at this
mutual
theorem VR.mono0 {C C':Ctx} (hL:Le0 C C'):∀{v:Value} {x:AV},VR C v x->VR C' v x
 | _,_,.int k n=>.int k n
 | _,_,.bool b=>.bool b
 | _,_,.str s=>.str s
 | _,_,.nilptr=>.nilptr
 | _,_,.ptr o i off l h=>.ptr o i off l (hL.μ o l h)
 | _,_,.fptr b q off vs cells hc hv hso hb hl=>.fptr b q off vs cells (hc.keep0 (hL.keep b hl hb).1) (VRs.mono0 hL hv) hso (hL.keep b hl hb).2 (Nat.lt_of_lt_of_le hl hL.size)
 | _,_,.nilsl a=>.nilsl a
 | _,_,.fsl b q cap sz vs es hc hs hv hso hb hl hcap =>
  .fsl b q cap sz vs es (hc.keep0 (hL.keep b hl hb).1) hs (VRs.mono0 hL hv) hso (hL.keep b hl hb).2 (Nat.lt_of_lt_of_le hl hL.size) hcap
 | _,_,.fnil a cap sz=>.fnil a cap sz
 | _,_,.sl sz o off len cap l c e f h hz hh hm hcap=>by
  obtain ⟨c',f',h1,h2⟩:=hL.cells _ _ _ _ hh
  exact .sl sz o off len cap l c' e f' (hL.μ o l h) hz h1 (by omega) hcap
 | _,_,.slnil a sz o off=>.slnil a sz o off
 | _,_,.asl sz o i off len cap l h hcap=>.asl sz o i off len cap l (hL.μ o l h) hcap
 | _,_,.aslnil a cap sz o i off=>.aslnil a cap sz o i off
 | _,_,.nilmap=>.nilmap
 | _,_,.map o l h=>.map o l (hL.μ o l h)
 | _,_,.nilfunc=>.nilfunc
 | _,_,.func fn a c xs ys ha hc=>.func fn a c xs ys (VRs.mono0 hL ha) (VRs.mono0 hL hc)
 | _,_,.niliface=>.niliface
 | _,_,.anyi k n=>.anyi k n
 | _,_,.iface t v x h=>.iface t v x (VR.mono0 hL h)
 | _,_,.agg vs cs h=>.agg vs cs (VRs.mono0 hL h)
 | _,_,.tuple vs cs h=>.tuple vs cs (VRs.mono0 hL h)
 | _,_,.yield o l h=>.yield o l (hL.μ o l h)
theorem VRs.mono0 {C C':Ctx} (hL:Le0 C C'):∀{vs:List Value} {xs:List AV},VRs C vs xs->VRs C' vs xs
 | _,_,.nil=>.nil
 | _,_,.cons v x vs xs h hs=>.cons v x vs xs (VR.mono0 hL h) (VRs.mono0 hL hs)
end
theorem VR.mono {C C':Ctx} (hL:Le C C') {v:Value} {x:AV} (h:VR C v x):VR C' v x:=h.mono0 hL.to0
theorem VRs.mono {C C':Ctx} (hL:Le C C') {v:List Value} {x:List AV} (h:VRs C v x):VRs C' v x:=h.mono0 hL.to0
theorem VRs.length {C:Ctx}:∀{vs:List Value} {xs:List AV},VRs C vs xs->vs.length=xs.length
 | _,_,.nil=>rfl
 | _,_,.cons v x vs xs h hs=>by simp [VRs.length hs]
theorem VRs.get {C:Ctx}:∀{vs:List Value} {xs:List AV},VRs C vs xs->∀{j:Nat} {x:AV},xs[j]?=some x->∃ v,vs[j]?=some v/\VR C v x
 | _,_,.nil,j,x,h=>by simp at h
 | _,_,.cons v y vs xs h hs,j,x,hx=>by
  cases j with
  | zero=>simp at hx;subst hx;exact ⟨v,by simp,h⟩
  | succ j=>simp at hx;obtain ⟨u,hu,hr⟩:=VRs.get hs hx;exact ⟨u,by simpa using hu,hr⟩
theorem VRs.append {C:Ctx}:∀{vs us:List Value} {xs ys:List AV},VRs C vs xs->VRs C us ys->VRs C (vs ++ us) (xs ++ ys)
 | _,_,_,_,.nil,k=>k
 | _,_,_,_,.cons v x vs xs h hs,k=>.cons v x _ _ h (VRs.append hs k)
theorem VRs.take {C:Ctx} (n:Nat):∀{vs:List Value} {xs:List AV},VRs C vs xs->VRs C (vs.take n) (xs.take n):=by
 induction n with
 | zero=>intro vs xs h;simp;exact .nil
 | succ n ih=>intro vs xs h;cases h with
  | nil=>exact .nil
  | cons v x vs xs h hs=>simp;exact .cons _ _ _ _ h (ih hs)
theorem VRs.drop {C:Ctx} (n:Nat):∀{vs:List Value} {xs:List AV},VRs C vs xs->VRs C (vs.drop n) (xs.drop n):=by
 induction n with
 | zero=>intro vs xs h;simpa using h
 | succ n ih=>intro vs xs h;cases h with
  | nil=>exact .nil
  | cons v x vs xs h hs=>simpa using ih hs
theorem VRs.set {C:Ctx} {v:Value} {x:AV} (hv:VR C v x):∀{vs:List Value} {xs:List AV},VRs C vs xs->∀j,VRs C (vs.set j v) (xs.set j x)
 | _,_,.nil,j=>by simp;exact .nil
 | _,_,.cons w y vs xs h hs,0=>by simp;exact .cons _ _ _ _ hv hs
 | _,_,.cons w y vs xs h hs,j + 1=>by simp;exact .cons _ _ _ _ h (VRs.set hv hs j)
theorem VRs.split {C:Ctx}:∀{vs:List Value} {xs ys:List AV},VRs C vs (xs ++ ys)->∃ us ts,vs=us ++ ts/\VRs C us xs/\VRs C ts ys
 | vs,[],ys,h=>⟨[],vs,rfl,.nil,h⟩
 | _,x :: xs,ys,.cons v _ vs _ h hs=>by
  obtain ⟨us,ts,rfl,h1,h2⟩:=VRs.split hs
  exact ⟨v :: us,ts,rfl,.cons _ _ _ _ h h1,h2⟩
theorem VRs.one {C:Ctx} {v:Value} {x:AV} (h:VR C v x):VRs C [v] [x]:=.cons _ _ _ _ h .nil
theorem VRs.replicate {C:Ctx} {vs:List Value} {xs:List AV} (h:VRs C vs xs) (n:Nat):VRs C (List.replicate n vs).flatten (List.replicate n xs).flatten:=by
 induction n with
 | zero=>exact .nil
 | succ n ih=>simp [List.replicate_succ];exact h.append ih
theorem VR.cells {C:Ctx} {v:Value} {x:AV} (h:VR C v x):VRs C v.cells.toList x.cells:=by
 cases h <;> first | (exact VRs.one (by constructor <;> assumption)) | (simp only [Value.cells,AV.cells];assumption)
def RowOK (C:Ctx) (o sz:Nat) (es:List (List AV)):Prop :=
 (es=[]/\C.μ o=none) \/ ∃ l c e vs,C.μ o=some l/\l.sz=sz/\0 < sz/\C.w.heap[l.blk]?=some (.cells c e (0,0))/\l.off + es.length * sz<=c.size /\
  (∀x ∈ es,x.length=sz)/\(∀j v,vs[j]?=some v->c[l.off + j]?=some v)/\VRs C vs es.flatten
inductive MapRel (C:Ctx):List MapEntry->List (AV × AV)->Prop
 | nil:MapRel C [] []
 | cons (m:MapEntry) (k v:AV) (ms:List MapEntry) (es:List (AV × AV)) (hk:VR C m.key k) (hv:VR C m.val v) (h:MapRel C ms es):MapRel C (m :: ms) ((k,v) :: es)
def MapOK (C:Ctx) (o:Nat) (es:List (AV × AV)):Prop:=∃ l ms clock,C.μ o=some l/\C.w.heap[l.blk]?=some (.map ms clock)/\MapRel C ms.toList es
def stOK (r:Loop):LSt->Prop
 | .ready=>r.state=.ready/\r.pending=none
 | .busy=>r.state=.busy/\r.pending=none
 | .done .normal=>False
 | .done (.exit id)=>r.state=.done/\r.pending=some (.exit id)
 | .done .ret=>r.state=.done/\r.pending=some .ret
 | .over=>True
def LoopOK (C:Ctx) (o:Nat) (n:Nat) (ps:Array Nat) (F:AFrame) (asg body:Code) (st:LSt):Prop :=
 ∃ l r,C.μ o=some l/\C.w.heap[l.blk]?=some (.loop r)/\r.params=ps/\r.assign=asg/\r.body=body/\r.tmps.size=n/\(∀t,VR C (r.tmps.getD t undef) (F t))/\stOK r st
def ObjOK (C:Ctx) (o:Nat):AObj->Prop
 | .row sz es=>RowOK C o sz es
 | .map es=>MapOK C o es
 | .loop n ps F asg body st=>LoopOK C o n ps F asg body st
structure Rel (C:Ctx):Prop where
 obj:∀o x,C.S.obj o=some x->ObjOK C o x
 inj:∀o o' l l' x x',C.S.obj o=some x->C.S.obj o'=some x'->C.μ o=some l->C.μ o'=some l'->l.blk=l'.blk->o=o'
 lt:∀o x,C.S.obj o=some x->o < C.S.next
 fresh:∀o l,C.μ o=some l->o < C.S.next
 low:∀o x l,C.S.obj o=some x->C.μ o=some l->C.base<=l.blk
 basele:C.base<=C.w.heap.size
theorem MapRel.mono {C C':Ctx} (hL:Le0 C C'):∀{ms:List MapEntry} {es:List (AV × AV)},MapRel C ms es->MapRel C' ms es
 | _,_,.nil=>.nil
 | _,_,.cons m k v ms es hk hv h=>.cons m k v ms es (hk.mono0 hL) (hv.mono0 hL) (MapRel.mono hL h)
theorem ObjOK.mono0 {C C':Ctx} (hL:Le0 C C') {o:Nat} {x:AObj} (h:ObjOK C o x) (hμ:C.μ o=none->C'.μ o=none) (hb:∀l,C.μ o=some l->C'.w.heap[l.blk]?=C.w.heap[l.blk]?):ObjOK C' o x:=by
 cases x with
 | row sz es =>
  rcases h with ⟨h1,h2⟩ | ⟨l,c,e,vs,h1,h2,h3,h4,h5,h6,h7,h8⟩
  ·exact .inl ⟨h1,hμ h2⟩
  ·exact .inr ⟨l,c,e,vs,hL.μ o l h1,h2,h3,(hb l h1).trans h4,h5,h6,h7,h8.mono0 hL⟩
 | map es =>
  obtain ⟨l,ms,clock,h1,h2,h3⟩:=h
  exact ⟨l,ms,clock,hL.μ o l h1,(hb l h1).trans h2,h3.mono hL⟩
 | loop n ps F asg body st =>
  obtain ⟨l,r,h1,h2,h3,h4,h5,h6,h7,h8⟩:=h
  exact ⟨l,r,hL.μ o l h1,(hb l h1).trans h2,h3,h4,h5,h6,fun t=>(h7 t).mono0 hL,h8⟩
theorem ObjOK.mono {C C':Ctx} (hL:Le C C') {o:Nat} {x:AObj} (h:ObjOK C o x) (hμ:C.μ o=none->C'.μ o=none) (hb:∀l,C.μ o=some l->C'.w.heap[l.blk]?=C.w.heap[l.blk]?):ObjOK C' o x:=h.mono0 hL.to0 hμ hb
theorem Rel.blk_lt {C:Ctx} (h:Rel C) {o:Nat} {x:AObj} {l:Loc} (ho:C.S.obj o=some x) (hl:C.μ o=some l):l.blk < C.w.heap.size:=by
 have:=h.obj o x ho
 cases x with
 | row sz es =>
  rcases this with ⟨_,h2⟩ | ⟨l',c,e,vs,h1,_,_,h4,_⟩
  ·rw [hl] at h2;cases h2
  ·rw [hl] at h1;cases h1;exact (Array.getElem?_eq_some_iff.1 h4).1
 | map es =>
  obtain ⟨l',ms,clock,h1,h2,_⟩:=this
  rw [hl] at h1;cases h1;exact (Array.getElem?_eq_some_iff.1 h2).1
 | loop n ps F asg body st =>
  obtain ⟨l',r,h1,h2,_⟩:=this
  rw [hl] at h1;cases h1;exact (Array.getElem?_eq_some_iff.1 h2).1
def Ctx.madeAt (C:Ctx) (id nx:Nat) (o:Obj) (x:AObj) (sz:Nat):Ctx:={ C with w:=C.w.alloc o,μ:=fun q=>if q=id then some ⟨C.w.heap.size,0,sz⟩ else C.μ q,S:=⟨nx,fun q=>if q=id then some x else C.S.obj q⟩ }
structure Fits (C:Ctx) (id nx:Nat):Prop where
 obj:C.S.obj id=none
 μ:C.μ id=none
 lt:id < nx
 le:C.S.next<=nx
def Ctx.made (C:Ctx) (o:Obj) (x:AObj) (sz:Nat):Ctx:=C.madeAt C.S.next (C.S.next + 1) o x sz
theorem Rel.fits {C:Ctx} (h:Rel C):Fits C C.S.next (C.S.next + 1) where
 obj:=by
  cases e:C.S.obj C.S.next with
  | none=>rfl
  | some x=>have:=h.lt _ _ e;omega
 μ:=by
  cases e:C.μ C.S.next with
  | none=>rfl
  | some l=>have:=h.fresh _ _ e;omega
 lt:=by omega
 le:=by omega
theorem xBD {C:Ctx} {id nx:Nat} (h:Rel C) (hf:Fits C id nx) (o:Obj) (x:AObj) (sz:Nat):Le C (C.madeAt id nx o x sz) where
 base:=rfl
 av:=rfl
 μ q l hl:=by
  show (if q=id then _ else _)=_
  rw [if_neg (by rintro rfl;rw [hf.μ] at hl;cases hl)];exact hl
 size:=by simp [Ctx.madeAt]
 cells b c e f hb:=⟨c,f,(Below.heap_alloc C.w o b (Array.getElem?_eq_some_iff.1 hb).1).trans hb,rfl⟩
 keep b hb hn:=by
  refine ⟨Below.heap_alloc C.w o b hb,?_⟩
  rintro (⟨h1,h2⟩ | ⟨q,l,y,h1,h2,h3⟩)
  ·exact hn (.inl ⟨h1,h2⟩)
  ·by_cases e:q=id
   ·subst e
    simp only [Ctx.madeAt,if_true,xoI] at h2
    subst h2;simp at h3;omega
   ·simp only [Ctx.madeAt,if_neg e] at h1 h2
    exact hn (.inr ⟨q,l,y,h1,h2,h3⟩)
 below:=(Below.refl _ _).alloc h.basele o
 loops b r hb:=⟨r,(Below.heap_alloc C.w o b (Array.getElem?_eq_some_iff.1 hb).1).trans hb⟩
theorem xBU {C:Ctx} {id nx:Nat} (h:Rel C) (hf:Fits C id nx) (o:Obj) (x:AObj) (sz:Nat) (hx:ObjOK (C.madeAt id nx o x sz) id x):Rel (C.madeAt id nx o x sz) where
 obj q y hq:=by
  by_cases e:q=id
  ·subst e;simp only [Ctx.madeAt,if_true,xoI] at hq;subst hq;exact hx
  ·simp only [Ctx.madeAt,if_neg e] at hq
   refine (h.obj q y hq).mono (xBD h hf o x sz) (fun hn=>by simp only [Ctx.madeAt,if_neg e];exact hn) (fun l hl=>Below.heap_alloc C.w o _ (h.blk_lt hq hl))
 inj q q' l l' y y' hq hq' hl hl' hb:=by
  simp only [Ctx.madeAt] at hq hq' hl hl'
  by_cases e:q=id <;> by_cases e':q'=id
  ·omega
  ·rw [if_pos e] at hl;rw [if_neg e'] at hq' hl'
   cases hl
   have:=h.blk_lt hq' hl';simp at hb;omega
  ·rw [if_neg e] at hq hl;rw [if_pos e'] at hl'
   cases hl'
   have:=h.blk_lt hq hl;simp at hb;omega
  ·rw [if_neg e] at hq hl;rw [if_neg e'] at hq' hl'
   exact h.inj q q' l l' y y' hq hq' hl hl' hb
 lt q y hq:=by
  have:=hf.lt;have:=hf.le
  simp only [Ctx.madeAt] at hq ⊢
  by_cases e:q=id
  ·omega
  ·rw [if_neg e] at hq;have:=h.lt q y hq;omega
 fresh q l hl:=by
  have:=hf.lt;have:=hf.le
  simp only [Ctx.madeAt] at hl ⊢
  by_cases e:q=id
  ·omega
  ·rw [if_neg e] at hl;have:=h.fresh q l hl;omega
 low q y l hq hl:=by
  simp only [Ctx.madeAt] at hq hl ⊢
  by_cases e:q=id
  ·rw [if_pos e] at hl;cases hl;exact h.basele
  ·rw [if_neg e] at hq hl;exact h.low q y l hq hl
 basele:=by have:=h.basele;simp [Ctx.madeAt];omega
theorem xCq {C:Ctx} {id nx:Nat} (h:Rel C) (hf:Fits C id nx) (c:Array Value) (e:TypeId) (sz:Nat) (es:List (List AV)) (hz:0 < sz) (hs:∀x ∈ es,x.length=sz)
  (hn:es.length * sz<=c.size) {vs:List Value} (hvs:∀(j:Nat) v,vs[j]?=some v->c[j]?=some v) (hv:VRs C vs es.flatten) :
  ObjOK (C.madeAt id nx (.cells c e (0,0)) (.row sz es) sz) id (.row sz es):=by
 refine .inr ⟨⟨C.w.heap.size,0,sz⟩,c,e,vs,by simp [Ctx.madeAt],rfl,hz,?_,by simpa using hn,hs,by simpa using hvs,hv.mono (xBD h hf _ _ _)⟩
 show (C.w.heap.push _)[C.w.heap.size]?=_
 simp
theorem xKs {C:Ctx} (h:Rel C) (o:Obj) (x:AObj) (sz:Nat):Le C (C.made o x sz):=xBD h h.fits o x sz
theorem xFF {C:Ctx} (h:Rel C) (o:Obj) (x:AObj) (sz:Nat) (hx:ObjOK (C.made o x sz) C.S.next x):Rel (C.made o x sz):=xBU h h.fits o x sz hx
theorem xHQ {C:Ctx} (h:Rel C) (c:Array Value) (e:TypeId) (sz:Nat) (es:List (List AV)) (hz:0 < sz) (hs:∀x ∈ es,x.length=sz)
  (hn:es.length * sz<=c.size) {vs:List Value} (hvs:∀(j:Nat) v,vs[j]?=some v->c[j]?=some v) (hv:VRs C vs es.flatten) :
  ObjOK (C.made (.cells c e (0,0)) (.row sz es) sz) C.S.next (.row sz es):=xCq h h.fits c e sz es hz hs hn hvs hv
end Go.Proofs.YtnhfofmhkfdpgaaGreatDoor.Vm
namespace Go.Proofs.YtnhfofmhkfdpgaaGreatDoor.Vm
open Go Go.RowKit
def ofCell:Value->Option AV
 | .int k n=>some (.int k n)
 | .bool b=>some (.bool b)
 | .string s=>some (.str s)
 | .pointer none=>some .nilptr
 | .slice none 0 0=>some .nilsl
 | .map none=>some .nilmap
 | .nilFunc=>some .nilfunc
 | .nilIface=>some .niliface
 | _=>none
def ofValue:Value->Option AV
 | .agg cs=>(mapOpt ofCell cs.toList).map .agg
 | v=>ofCell v
def cx:Operand->Option VX
 | .tmp t=>some (.t t)
 | .const v=>(ofValue v).map .c
 | .func f=>some (.c (.func (.func f) [] []))
 | .global _=>none
def sizeT (P:Program) (t:TypeId):Option Nat:=(P.info? t).map (·.size)
def isAggD:TypeDesc->Bool
 | .struct _=>true
 | .array _ _=>true
 | _=>false
def aggT (P:Program) (t:TypeId):Option Bool:=(P.underlying t).map isAggD
def zeroT (P:Program) (t:TypeId):Option Value:=(P.info? t).bind (·.zero)
def zeroC (P:Program) (t:TypeId):Option (List AV):=(zeroT P t).bind fun z=>mapOpt ofCell z.cells.toList
def fieldT (P:Program) (t:TypeId) (i:Nat):Option Field:=match P.underlying t with | some (.struct fs)=>fs[i]? | _=>none
def placeT (P:Program) (t:TypeId):Option (Nat->Option (Nat × Nat)) :=
 match P.underlying t with
 | some (.array _ e)=>match P.info? e with
  | some ie=>some fun i=>some (i * ie.size,ie.size)
  | none=>none
 | some (.struct fields)=>match fields.toList.mapM (fun f=>(P.info? f.type).map fun i=>(f.offset,i.size)) with
  | some places=>some fun i=>places.toArray[i]?
  | none=>none
 | _=>none
def keyT (P:Program) (t:TypeId):Option TypeId:=match P.underlying t with | some (.map k _)=>some k | _=>none
def elemT (P:Program) (t:TypeId):Option TypeId:=match P.underlying t with | some (.map _ e)=>some e | _=>none
def compBuiltin (P:Program) (b:Builtin) (ats:Array TypeId) (xs:Array Operand):Option VOp :=
 match b,xs.toList,ats.toList with
 | .len,[x],[t]=>do
  let x <- cx x
  match P.underlying t with
  | some .string=>some (.pk .lenStr [x])
  | some (.slice _)=>some (.pk .lenS [x])
  | some (.array n _)=>some (.pk (.lenArr n) [x])
  | some (.map _ _)=>some (.sk .lenMap [x])
  | _=>none
 | .append,[x,y],[t,u]=>do
  let x <- cx x
  let y <- cx y
  match P.underlying t,P.underlying u with
  | some (.slice e),some (.slice _)=>do
   let i <- P.info? e
   let z <- i.zero
   if 0 < i.size/\0 < i.bytes/\i.bytes<=512/\z.cells.size=i.size then some (.sk (.append i.size i.bytes) [x,y]) else none
  | _,_=>none
 | .copy,[x,y],[t,u]=>do
  let x <- cx x
  let y <- cx y
  match P.underlying t,P.underlying u with
  | some (.slice e),some (.slice _)=>do
   let s <- sizeT P e
   if 0 < s then some (.sk (.copy s) [x,y]) else none
  | _,_=>none
 | .clear,[x],[t]=>do
  let x <- cx x
  match P.underlying t with
  | some (.slice e)=>do
   let z <- zeroC P e
   if 0 < z.length then some (.sk (.clear z) [x]) else none
  | _=>none
 | .min,xs,_=>do some (.pk .minI (<- mapOpt cx xs))
 | .max,xs,_=>do some (.pk .maxI (<- mapOpt cx xs))
 | _,_,_=>none
def negOf:BinOp->Option Bool
 | .eql=>some false
 | .neq=>some true
 | _=>none
def isNilP:Operand->Bool
 | .const (.pointer none)=>true
 | _=>false
def isNilI:Operand->Bool
 | .const .nilIface=>true
 | _=>false
def isNilS:Operand->Bool
 | .const (.slice none 0 0)=>true
 | _=>false
def eqFields (P:Program) (q:TypeId->Option (List EK)):List Field->Nat->Option (List EK)
 | [],_=>some []
 | f :: fs, off => if f.name ≠ "_" ∧ f.offset = off then do
   let ks <- q f.type
   let s <- sizeT P f.type
   let g <- aggT P f.type
   if s=ks.length/\0 < s/\(g=true \/ s=1) then do
    let rest <- eqFields P q fs (off + s)
    some (ks ++ rest)
   else none
  else none
def eqT (P:Program):Nat->TypeId->Option (List EK)
 | 0,_=>none
 | d + 1,t=>match P.underlying t with
  | some (.int k)=>some [.int k]
  | some .bool=>some [.bool]
  | some .string=>some [.str]
  | some (.struct fields)=>if P.stoodInHeld t then none else eqFields P (eqT P d) fields.toList 0
  | some (.array n e)=>do
   let ks <- eqT P d e
   let s <- sizeT P e
   let g <- aggT P e
   if s=1/\g=false/\ks.length=1 then some (List.replicate n ks).flatten else none
  | _=>none
def isStr (P:Program) (t:TypeId):Bool:=match P.underlying t with
 | some (.struct _)=>true
 | _=>false
def keyRow (P:Program) (ms:Array (String × TypeId)) (t:TypeId):Option (Nat × List EK):=match P.info? t with
 | some i=>if i.comparable=true/\isStr P t=true/\(ms.all fun m=>i.methods.any fun q=>q.name == m.1)=true then (eqT P 2 t).map fun ks=>(t,ks) else none
 | none=>none
def keyRows (P:Program) (ms:Array (String × TypeId)):List (Nat × List EK):=(List.range P.types.size).filterMap (keyRow P ms)
def keyKind (P:Program) (k:TypeId):Option KK:=match P.underlying k with
 | some (.int _)=>some .int
 | some .string=>some .str
 | some .bool=>some .bool
 | some (.interface ms)=>some (.iface (keyRows P ms))
 | _=>none
def compBin (P:Program) (op:BinOp) (t:TypeId) (x y:Operand):Option VOp :=
 match P.underlying t with
 | some (.int _)=>do some (.pk (.ibin op) [<- cx x,<- cx y])
 | some .bool=>do
  let n <- negOf op
  some (.pk (.bbin n) [<- cx x,<- cx y])
 | some .string=>do some (.pk (.sbin op) [<- cx x,<- cx y])
 | some (.pointer _)=>do
  let n <- negOf op
  if isNilP y then some (.pk (.ptrNil n) [<- cx x]) else none
 | some (.interface _)=>do
  let n <- negOf op
  if isNilI y then some (.pk (.ifNil n) [<- cx x]) else none
 | some (.slice _)=>do
  let n <- negOf op
  if isNilS y then some (.eqNil n (<- cx x)) else none
 | some (.struct _)=>do
  let n <- negOf op
  let ks <- eqT P 8 t
  let x <- cx x
  let y <- cx y
  if P.eqGuardType P.depth t then none else some (.pk (.cellsEq n ks) [x,y])
 | some (.array _ _)=>do
  let n <- negOf op
  let ks <- eqT P 8 t
  let x <- cx x
  let y <- cx y
  if P.eqGuardType P.depth t then none else some (.pk (.cellsEq n ks) [x,y])
 | _=>none
def compOp (P:Program):Op->Option VOp
 | .move x=>do some (.pk .move [<- cx x])
 | .assign x=>do some (.pk .move [<- cx x])
 | .pick c a b=>do some (.pk .pick [<- cx c,<- cx a,<- cx b])
 | .alloc t=>do
  let z <- zeroC P t
  if 0 < z.length then some (.sk (.alloc z) []) else none
 | .box _ x=>do some (.sk .box [<- cx x])
 | .build t parts=>do
  let z <- zeroC P t
  let pl <- placeT P t
  let ps <- mapOpt (fun p:Nat × Operand=>pl p.1) parts.toList
  let xs <- mapOpt (fun p:Nat × Operand=>cx p.2) parts.toList
  some (.pk (.build z ps) xs)
 | .buildSlice t len parts =>
  match P.underlying t with
  | some (.slice e)=>do
   let z <- zeroC P e
   let s <- sizeT P e
   let xs <- mapOpt (fun p=>cx p.2) parts.toList
   if 0 < s/\len * s<=16777216/\z.length=s then some (.sk (.buildSlice z s len (parts.toList.map (·.1))) xs) else none
  | _=>none
 | .load t x=>do
  let s <- sizeT P t
  let g <- aggT P t
  some (.sk (.load g s) [<- cx x])
 | .store t a v=>do
  let s <- sizeT P t
  some (.sk (.store s) [<- cx a,<- cx v])
 | .nilCheck x=>do some (.pk .nilCheck [<- cx x])
 | .binOp op t x y _=>compBin P op t x y
 | .unOp op _ x=>do some (.pk (.un op) [<- cx x])
 | .convert src dst x =>
  match P.underlying src,P.underlying dst with
  | some (.int _),some (.int k)=>do some (.pk (.convInt k) [<- cx x])
  | _,_=>none
 | .makeInterface t x =>
  match P.underlying t with
  | some (.interface _)=>none
  | some _=>do some (.pk (.iface t) [<- cx x])
  | none=>none
 | .makeFunc fn first captured=>do
  let xs <- mapOpt cx first.toList
  let ys <- mapOpt cx captured.toList
  some (.pk (.mkfunc fn first.size) (xs ++ ys))
 | .makeMap _ none=>some (.sk .makeMap [])
 | .makeSlice t l c =>
  match P.underlying t with
  | some (.slice e)=>do
   let z <- zeroC P e
   let i <- P.info? e
   let l <- cx l
   let c <- cx c
   if 0 < i.size/\0 < i.bytes/\i.bytes<=512/\z.length=i.size then some (.sk (.makeSlice z i.size i.bytes) [l,c]) else none
  | _=>none
 | .slice t x lo hi mx=>do
  let x <- cx x
  let bs <- mapOpt cx (lo.toList ++ hi.toList ++ mx.toList)
  match P.underlying t with
  | some (.slice e)=>do
   let s <- sizeT P e
   if 0 < s then some (.pk (.slice s lo.isSome hi.isSome mx.isSome) (x :: bs)) else none
  | some .string=>if mx.isSome then none else some (.pk (.sliceStr lo.isSome hi.isSome) (x :: bs))
  | some (.array n e)=>do
   let s <- sizeT P e
   if 0 < s then some (.pk (.sliceArr s n lo.isSome hi.isSome mx.isSome) (x :: bs)) else none
  | _=>none
 | .fieldAddr s x i=>do
  let f <- fieldT P s i
  let n <- sizeT P f.type
  if 0 < n then some (.pk (.fieldAddr f.offset) [<- cx x]) else none
 | .field t x i=>do
  let f <- fieldT P t i
  let n <- sizeT P f.type
  let g <- aggT P f.type
  some (.pk (.field g f.offset n) [<- cx x])
 | .indexAddr t x i =>
  match P.underlying t with
  | some (.slice e)=>do
   let s <- sizeT P e
   if 0 < s then some (.pk (.indexAddr s) [<- cx x,<- cx i]) else none
  | some (.array n e)=>do
   let s <- sizeT P e
   if 0 < s then some (.pk (.indexAddrArr s n) [<- cx x,<- cx i]) else none
  | _=>none
 | .index t x i =>
  match P.underlying t with
  | some .string=>do some (.pk .indexStr [<- cx x,<- cx i])
  | _=>none
 | .lookup t x i ok=>do
  let k <- keyT P t
  let e <- elemT P t
  let z <- (zeroT P e).bind ofCell
  let kk <- keyKind P k
  some (.sk (.lookup kk z ok) [<- cx x,<- cx i])
 | .mapUpdate t m k v=>do
  let q <- keyT P t
  let kk <- keyKind P q
  some (.sk (.mapUpdate kk) [<- cx m,<- cx k,<- cx v])
 | .typeAssert x _ t ok=>do
  let z <- (zeroT P t).bind ofValue
  match P.underlying t with
  | some (.interface _)=>none
  | some _=>do some (.pk (.assert t ok z) [<- cx x])
  | none=>none
 | .extract x i=>do some (.pk (.extract i) [<- cx x])
 | .call c =>
  match c.callee with
  | .builtin b=>compBuiltin P b c.argTypes c.args
  | .value (.func f)=>do some (.callF f (<- mapOpt cx c.args.toList))
  | .value x=>do some (.callV (<- cx x) (<- mapOpt cx c.args.toList))
  | .invoke x name=>do some (.callI (<- cx x) name (<- mapOpt cx c.args.toList))
 | _=>none
def guardSlot (ops:Array Oper):Option (Nat × Bool)->Option (Option (Nat × Bool))
 | none=>some none
 | some (j,b)=>match (ops[j]?).bind (·.dst) with
  | some t=>some (some (t,b))
  | none=>none
def compOper (P:Program) (n:Nat) (ops:Array Oper) (o:Oper):Option VOper:=do
 let op:=(compOp P o.op).getD .bad
 let g <- guardSlot ops o.guard
 match o.dst with
 | none=>some ⟨none,op,g⟩
 | some d=>if d < n then some ⟨some d,op,g⟩ else none
def afts (ops:Array Oper):List (List Nat):=ops.toList.map fun o=>((o.after.toList.filter (Region.binds .any)).map (·.on)).eraseDups
def compCode (P:Program) (n:Nat):Code->Option VCode
 | .skip=>some .skip
 | .region _ ops draw=>(mapOpt (compOper P n ops) ops.toList).map fun l=>.region draw l (if draw then afts ops else [])
 | .seq a b=>do some (.seq (<- compCode P n a) (<- compCode P n b))
 | .cond c a b=>do some (.cond (<- cx c) (<- compCode P n a) (<- compCode P n b))
 | .block id c=>do some (.block id (<- compCode P n c))
 | .loop c=>do some (.loop (<- compCode P n c))
 | .exit id=>some (.exit id)
 | .ret=>some .ret
 | .label _=>some .label
 | .scope c=>do some (.scope (<- compCode P n c))
 | .rangeFunc g ps a b=>do
  let x <- cx g
  if ps.all (· < n) then some (.rangeFunc n x ps a b) else none
 | _=>some .bad
def compRes (P:Program):ResultVar->Option VRes
 | .tmp t=>some (.tmp t)
 | .cell t ty=>do
  let s <- sizeT P ty
  let g <- aggT P ty
  some (.cell t g s)
def compFunc (P:Program) (fn:Func):Option VFunc :=
 match fn.body with
 | none=>none
 | some c=>do
  let rs <- mapOpt (compRes P) fn.results.toList
  let k <- compCode P fn.ntmps c
  some ⟨fn.ntmps,rs,k⟩
end Go.Proofs.YtnhfofmhkfdpgaaGreatDoor.Vm
