/- The evaluator: what a function's code computes, told over plain lists in place of memory. Nothing here is trusted: SvC.lean proves it sound against the model. -/
import Derived.Scope
import Derived.Below
import Derived.Orders
import Derived.Laws.StructEq
set_option linter.unusedVariables false
set_option linter.unusedSimpArgs false
namespace Go.Sv
open Go
inductive Ty where
 |bool
 |int (k:IntKind)
 |str
 |fn
 |slice (e:TypeId) (t:Ty)
 |pair (a b:Ty)
 deriving DecidableEq
abbrev Ty.den:Ty→Type
 | .bool=>Bool
 | .int _=>Int
 | .str=>ByteArray
 | .fn=>Nat
 | .slice _ t=>List t.den
 | .pair a b=>a.den×b.den
def Ty.dflt:(t:Ty)→t.den
 | .bool=>false
 | .int _=>(0:Int)
 | .str=>ByteArray.empty
 | .fn=>(0:Nat)
 | .slice _ _=>[]
 | .pair a b=>(a.dflt,b.dflt)
def Ty.sz:Ty→Nat
 | .pair a b=>a.sz+b.sz
 |_=>1
def Ty.zke:Ty→Bool
 | .pair _ _=>true
 |_=>false
def Ty.flat:Ty→Bool
 | .slice _ _=>false
 | .pair a b=>a.flat&&b.flat
 |_=>true
inductive Tag where
 |no
 |nil
 |exact
 |own (n:Nat)
def Tag.names:Tag→List Nat
 | .own n=>[n]
 |_=>[]
structure Cap where
 ptr:Bool
 t:Ty
 x:t.den
structure FnV where
 f:Nat
 caps:List Cap
inductive PC where
 |bool (b:Bool)
 |int (k:IntKind) (n:Int)
 |str (s:ByteArray)
 |nilS
 |slice (e:TypeId) (t:Ty) (xs:List t.den) (g:Tag)
 |box (d off:Nat)
 |elem (t:Ty) (x:t.den)
 |elemT (u:Ty) (g:Nat) (i:Int) (off:Nat)
 |clo (f:Nat) (caps:List Cap)
 |fnv (v:FnV)
 |glob (g:Nat)
 |pin (br f:Nat)
 |pinp (br f:Nat)
 |dead
inductive SV where
 |one (c:PC)
 |agg (cs:List PC)
def SV.cells:SV→List PC
 | .one c=>[c]
 | .agg cs=>cs
inductive PV where
 |undef
 |void
 |sv (s:SV)
 |tup (l:List SV)
def Ty.toPC:(t:Ty)→t.den→List PC
 | .bool,b=>[.bool b]
 | .int k,n=>[.int k n]
 | .str,s=>[.str s]
 | .fn,f=>[.fnv ⟨f,[]⟩]
 | .slice e t,xs=>[.slice e t xs .no]
 | .pair a b,x=>a.toPC x.1++b.toPC x.2
def yxm:List PC→Option Bool
 |[.bool b]=>some b
 |_=>none
def intOf (k:IntKind):List PC→Option Int
 |[.int k' n]=>if k'=k then some n else none
 |_=>none
def strOf:List PC→Option ByteArray
 |[.str s]=>some s
 |_=>none
def fnOf:List PC→Option Nat
 |[.clo f []]=>some f
 |_=>none
def rowOf (e:TypeId) (t:Ty):List PC→Option (List t.den)
 |[.nilS]=>some []
 |[.slice e' t' xs _]=>if h:e'=e∧t'=t then some (h.2▸xs) else none
 |_=>none
def Ty.ofPC:(t:Ty)→List PC→Option t.den
 | .bool,cs=>yxm cs
 | .int k,cs=>intOf k cs
 | .str,cs=>strOf cs
 | .fn,cs=>fnOf cs
 | .slice e t,cs=>rowOf e t cs
 | .pair a b,cs=>
   match a.ofPC (cs.take a.sz),b.ofPC (cs.drop a.sz) with
   |some x,some y=>some (x,y)
   |_,_=>none
def Ty.proj:(n i:Nat)→(t:Ty)→t.den→Option (Σ u:Ty,u.den)
 |1,0,t,x=>some ⟨t,x⟩
 |n+2,i,.pair a b,x=>match i with
  |0=>some ⟨a,x.1⟩
  |i+1=>Ty.proj (n+1) i b x.2
 |_,_,_,_=>none
def Ty.offs:(n i:Nat)→Ty→Option (Nat×Ty)
 |1,0,t=>some (0,t)
 |n+2,i,.pair a b=>match i with
  |0=>some (0,a)
  |i+1=>match Ty.offs (n+1) i b with
   |some (o,u)=>some (a.sz+o,u)
   |none=>none
 |_,_,_=>none
inductive D where
 |bool|int (k:IntKind)|str|slice (e:TypeId)|struct (fs:List (Nat×TypeId))|array (n:Nat) (e:TypeId)|other|map (k e:TypeId)
structure TI where
 d:D
 size:Nat
 bytes:Nat
 ty:Option Ty
 eq:Bool:=false
def TI.agg (i:TI):Bool:=match i.d with| .struct _| .array _ _=>true|_=>false
def Ty.isMap:Ty→Bool
 | .slice e _=>Nat.beq e 4611686018427387905
 |_=>false
inductive Kd where
 |v (t:Ty) (own:List Nat)
 |n (e:TypeId) (t:Ty)
 |p (t:Ty)
 |b (t:Ty) (tid:TypeId) (own:List Nat)
 |f
abbrev Kd.den:Kd→Type
 | .v t _=>t.den
 | .n _ _=>Unit
 | .p t=>t.den
 | .b t _ _=>t.den
 | .f=>FnV
abbrev Tup:List Kd→Type
 |[]=>Unit
 |[k]=>k.den
 |k::k'::ks=>k.den×Tup (k'::ks)
structure Sig where
 args:List Kd
 res:List Kd
 io:Bool:=false
abbrev Shape:=List (Nat×Kd)
abbrev Shape.ks (s:Shape):List Kd:=s.map (·.2)
structure Env where
 fn:Nat→Option Func
 sig:Nat→Sig
 ti:Nat→Option TI
 shape:Nat→Nat→Option (Shape×Shape)
 glob:Nat→Option (TypeId×Ty×Nat)
 yqu:(g:Nat)→(t:Ty)→List t.den
 foreign:(f:Nat)→Option (Tup (sig f).args→Option (Tup (sig f).res))
 rows:Nat→Option (Bool×TypeId×Ty):=fun _=>none
 revs:Nat→Option (TypeId×Ty):=fun _=>none
 pinF:Nat→TypeId→TypeId→List SV→(u:Ty)→List u.den→Option (List u.den):=fun _ _ _ _ _ _=>none
 lits:String→Bool:=fun _=>false
 tab:Nat→Option (List Value):=fun _=>none
structure St where
 s:List (Nat×PV)
 b:List (Nat×(TypeId×List PC))
def getS:List (Nat×PV)→Nat→PV
 |[],_=>.undef
 |(j,v)::r,i=>bif Nat.beq j i then v else getS r i
def getB:List (Nat×(TypeId×List PC))→Nat→Option (TypeId×List PC)
 |[],_=>none
 |(j,v)::r,i=>bif Nat.beq j i then some v else getB r i
def delB:List (Nat×(TypeId×List PC))→Nat→List (Nat×(TypeId×List PC))
 |[],_=>[]
 |(j,v)::r,i=>bif Nat.beq j i then delB r i else (j,v)::delB r i
def St.get (σ:St) (i:Nat):PV:=getS σ.s i
def St.put (σ:St) (d:Option Nat) (v:PV):St:=match d with|some d=>{σ with s:=(d,v)::σ.s}|none=>σ
def PC.zcs (h:Nat→Option Bool):PC→PC
 | .slice e t xs (.own n)=>match h n with
   |some true=>.slice e t xs .no
   |some false=>.dead
   |none=>.slice e t xs (.own n)
 | .elemT u g i o=>match h g with
   |some _=>.dead
   |none=>.elemT u g i o
 |c=>c
def SV.map (f:PC→PC):SV→SV
 | .one c=>.one (f c)
 | .agg cs=>.agg (cs.map f)
def PV.map (f:PC→PC):PV→PV
 | .undef=>.undef
 | .void=>.void
 | .sv s=>.sv (s.map f)
 | .tup l=>.tup (l.map (·.map f))
def St.map (f:PC→PC) (σ:St):St:=
 {s:=σ.s.map fun p=>(p.1,p.2.map f),b:=σ.b.map fun p=>(p.1,(p.2.1,p.2.2.map f))}
def mem (l:List Nat) (n:Nat):Bool:=l.any (Nat.beq n)
def St.release (l:List Nat) (σ:St):St:=match l with
 |[]=>σ
 |l=>σ.map (PC.zcs fun n=>bif mem l n then some true else none)
def St.kill (l:List Nat) (σ:St):St:=match l with
 |[]=>σ
 |l=>σ.map (PC.zcs fun n=>bif mem l n then some false else none)
def PC.tag:PC→List Nat
 | .slice _ _ _ (.own n)=>[n]
 |_=>[]
def zdk (cs:List PC):List Nat:=cs.flatMap PC.tag
def PC.qkn (d:Nat):PC→PC
 | .box d' o=>bif Nat.beq d' d then .dead else .box d' o
 | .pin b f=>bif Nat.beq 3 d then .dead else .pin b f
 | .pinp b f=>bif Nat.beq 3 d then .dead else .pinp b f
 |c=>c
def St.qbz (σ:St) (d:Nat) (tid:TypeId) (cs:List PC):St:=
 let σ':=σ.map (PC.qkn d)
 {s:=(d,.sv (.one (.box d 0)))::σ'.s,b:=(d,(tid,cs.map (PC.qkn d)))::delB σ'.b d}
def St.del (σ:St) (d:Nat):St:={s:=σ.s,b:=delB σ.b d}
def PC.frozen (d:Nat) (t:Ty) (x:t.den):PC→PC
 | .box d' o=>bif Nat.beq d' d then (bif Nat.beq o 0 then .elem t x else .dead) else .box d' o
 | .pin b f=>bif Nat.beq 3 d then .dead else .pin b f
 | .pinp b f=>bif Nat.beq 3 d then .dead else .pinp b f
 |c=>c
section
variable (E:Env)
def ztz:Ty→List PC
 | .bool=>[.bool false]
 | .int k=>[.int k 0]
 | .str=>[.str ByteArray.empty]
 | .fn=>[.dead]
 | .slice e t=>[.slice e t [] .nil]
 | .pair a b=>ztz a++ztz b
def Env.ty (t:TypeId):Option Ty:=(E.ti t).bind (·.ty)
def Env.mkSV (t:TypeId) (cs:List PC):Option SV:=
 match E.ti t with
 |none=>none
 |some i=>if i.agg then some (.agg cs) else match cs with|[c]=>some (.one c)|_=>none
def St.ev (σ:St):Operand→PV
 | .tmp t=>σ.get t
 | .const (.bool b)=>.sv (.one (.bool b))
 | .const (.int k n)=>.sv (.one (.int k n))
 | .const (.string s)=>.sv (.one (.str s))
 | .const (.slice none 0 0)=>.sv (.one .nilS)
 | .const _=>.undef
 | .func f=>.sv (.one (.clo f []))
 | .global g=>.sv (.one (.glob g))
def Env.typed (t:TypeId):PV→PV
 | .sv (.one .nilS)=>match E.ti t with
   |some i=>match i.d,i.ty with
    | .slice _,some (.slice e u)=>.sv (.one (.slice e u [] .nil))
    |_,_=>.sv (.one .nilS)
   |none=>.sv (.one .nilS)
 |v=>v
def zcc (slot j k:Nat):Nat:=slot*64+j*8+k
def zti (own:List Nat) (slot j:Nat) (k:Nat):List PC→List PC
 |[]=>[]
 | .slice e t xs g::r=>.slice e t xs (bif mem own k then .own (zcc slot j k) else g)::zti own slot j (k+1) r
 |c::r=>c::zti own slot j (k+1) r
def Kd.unpack (slot j:Nat):(k:Kd)→k.den→SV
 | .v t own,x=>bif t.zke then .agg (zti own slot j 0 (t.toPC x))
   else match zti own slot j 0 (t.toPC x) with|[c]=>.one c|cs=>.agg cs
 | .n e t,_=>.one (.slice e t [] .nil)
 | .p t,x=>.one (.elem t x)
 | .b _ _ _,_=>.one (.box slot 0)
 | .f,q=>.one (.fnv q)
def zkg (slot j:Nat):(ks:List Kd)→Tup ks→List SV
 |[],_=>[]
 |[k],x=>[k.unpack slot j x]
 |k::k'::ks,x=>k.unpack slot j x.1::zkg slot (j+1) (k'::ks) x.2
def Kd.own:Kd→List Nat
 | .v _ own=>own
 | .b _ _ own=>own
 |_=>[]
def Kd.qcm:Kd→Bool
 | .v t _=>t.flat
 |_=>false
structure Hand where
 ren:List (Option Nat×Nat):=[]
 pl:List Nat:=[]
 rb:List (Nat×Nat):=[]
 pm:List Nat:=[]
def zbx (own:List Nat) (slot j:Nat):Nat→List PC→Hand→Option Hand
 |_,[],h=>some h
 |k,.slice _ _ _ g::r,h=>
  bif mem own k then (match g with
   | .own n=>zbx own slot j (k+1) r {h with ren:=(some n,zcc slot j k)::h.ren}
   | .nil=>zbx own slot j (k+1) r {h with ren:=(none,zcc slot j k)::h.ren}
   | .exact=>none
   | .no=>none)
  else zbx own slot j (k+1) r {h with pl:=g.names++h.pl}
 |k,.nilS::r,h=>zbx own slot j (k+1) r (bif mem own k then {h with ren:=(none,zcc slot j k)::h.ren} else h)
 |k,_::r,h=>zbx own slot j (k+1) r h
def Kd.hand (σ:St) (slot j:Nat):Kd→SV→Hand→Option Hand
 | .v _ own,s,h=>zbx own slot j 0 s.cells h
 | .b _ _ own,.one (.box d 0),h=>(match getB σ.b d with
   |some (_,cs)=>zbx own slot 0 0 cs {h with rb:=(d,slot)::h.rb}
   |none=>none)
 | .b _ _ _,_,_=>none
 | .p t,.one (.box d o),h=>(match getB σ.b d with
   |some (_,cs)=>some {h with pl:=zdk ((cs.drop o).take t.sz)++h.pl,pm:=d::h.pm}
   |none=>none)
 |_,_,h=>some h
def zef (σ:St):List (Nat×Nat×Kd)→List SV→Hand→Option Hand
 |(i,j,k)::ks,s::ss,h=>match k.hand σ i j s h with
  |some h'=>zef σ ks ss h'
  |none=>none
 |_,_,h=>some h
def nodup:List Nat→Bool
 |[]=>true
 |x::r=> !(mem r x)&&nodup r
def Hand.srcs (h:Hand):List Nat:=h.ren.filterMap (·.1)
def Hand.ok (h:Hand):Bool:=
 nodup (h.ren.map (·.2))&&(nodup h.srcs&&(nodup (h.rb.map (·.1))&&(nodup (h.rb.map (·.2))&&(h.pl.all (fun x=> !(mem h.srcs x))&&h.pm.all (fun x=> !(mem (h.rb.map (·.1)) x))))))
def handed (σ:St) (ks:List (Nat×Nat×Kd)) (l:List SV):Option Hand:=
 match zef σ ks l {} with
 |some h=>bif h.ok then some h else none
 |none=>none
def zll:Nat→List Kd→List (Nat×Nat×Kd)
 |_,[]=>[]
 |i,k::ks=>(i,0,k)::zll (i+1) ks
def zli (d:Nat):Nat→List Kd→List (Nat×Nat×Kd)
 |_,[]=>[]
 |j,k::ks=>(d,j,k)::zli d (j+1) ks
def zsg:Shape→List (Nat×Nat×Kd)
 |[]=>[]
 |(i,k)::r=>(i,0,k)::zsg r
def Kd.pack (σ:St):(k:Kd)→SV→Option k.den
 | .v t _,.one c=>bif t.zke then none else t.ofPC [c]
 | .v t _,.agg cs=>bif t.zke then t.ofPC cs else none
 | .n _ _,.one .nilS=>some ()
 | .n e t,.one (.slice e' t' _ .nil)=>if e'=e∧t'=t then some () else none
 | .p t,.one (.elem t' x)=>if h:t'=t then some (h▸x) else none
 | .p t,.one (.box d o)=>match getB σ.b d with
   |some (_,cs)=>bif t.isMap then none else t.ofPC ((cs.drop o).take t.sz)
   |none=>none
 | .b t tid _,.one (.box d 0)=>match getB σ.b d with
   |some (tid',cs)=>if tid'=tid then t.ofPC cs else none
   |none=>none
 | .f,.one (.fnv q)=>some q
 | .f,.one (.clo g caps)=>some ⟨g,caps⟩
 |_,_=>none
def zdl (σ:St):(ks:List Kd)→List SV→Option (Tup ks)
 |[],[]=>some ()
 |[k],[s]=>k.pack σ s
 |k::k'::ks,s::ss=>
  match k.pack σ s,zdl σ (k'::ks) ss with
  |some x,some y=>some (x,y)
  |_,_=>none
 |_,_=>none
def qii (σ:St):Shape→Option (List SV)
 |[]=>some []
 |(i,_)::r=>match σ.get i,qii σ r with
  | .sv s,some l=>some (s::l)
  |_,_=>none
def zks (σ:St) (hs:Shape):Option (Tup hs.ks):=
 match qii σ hs with
 |some l=>match handed σ (zsg hs) l with
  |some _=>zdl σ hs.ks l
  |none=>none
 |none=>none
def qdb:(hs:Shape)→Tup hs.ks→List (Nat×(TypeId×List PC))
 |[],_=>[]
 |[(i,.b t tid own)],x=>[(i,(tid,zti own i 0 0 (t.toPC x)))]
 |[_],_=>[]
 |(i,.b t tid own)::h'::hs,x=>(i,(tid,zti own i 0 0 (t.toPC x.1)))::qdb (h'::hs) x.2
 |_::h'::hs,x=>qdb (h'::hs) x.2
def slotsOf:(hs:Shape)→Tup hs.ks→List (Nat×PV)
 |[],_=>[]
 |[(i,k)],x=>[(i,.sv (k.unpack i 0 x))]
 |(i,k)::h'::hs,x=>(i,.sv (k.unpack i 0 x.1))::slotsOf (h'::hs) x.2
def stOf (hs:Shape) (x:Tup hs.ks):St:={s:=slotsOf hs x,b:=qdb hs x}
def zaa (n:Int) (len:Nat):Bool:=decide (0≤n)&&decide (n<(len:Int))
def zbe (lo hi:Int) (len:Nat):Bool:=decide (0≤lo)&&(decide (lo≤hi)&&decide (hi≤(len:Int)))
def quf (s:ByteArray) (n:Int):Int:=((s.data.getD n.toNat 0).toNat:Int)
def rd (t:Ty) (xs:List t.den) (n:Int):t.den:=xs.getD n.toNat t.dflt
def cut {α:Type} (xs:List α) (lo hi:Int):List α:=(xs.take hi.toNat).drop lo.toNat
def eqD:(u:Ty)→u.den→u.den→Bool
 | .bool,x,y=>x==y
 | .int _,x,y=>x==y
 | .str,x,y=>x.toList==y.toList
 | .pair a b,x,y=>eqD a x.1 y.1&&eqD b x.2 y.2
 | .fn,_,_=>false
 | .slice _ _,_,_=>false
def xhw (op:BinOp) (k:IntKind) (a b:Int):Option PC:=
 match op with
 | .add=>some (.int k (k.wrap (a+b)))
 | .sub=>some (.int k (k.wrap (a-b)))
 | .mul=>some (.int k (k.wrap (a*b)))
 | .eql=>some (.bool (a==b))
 | .neq=>some (.bool (a != b))
 | .lss=>some (.bool (decide (a<b)))
 | .leq=>some (.bool (decide (a≤b)))
 | .gtr=>some (.bool (decide (a>b)))
 | .geq=>some (.bool (decide (a≥b)))
 |_=>none
def xfz (op:BinOp) (a b:ByteArray):Option PC:=
 match op with
 | .eql=>some (.bool (a.toList==b.toList))
 | .neq=>some (.bool (!(a.toList==b.toList)))
 | .lss=>some (.bool (Op.bytesLess a.toList b.toList))
 | .leq=>some (.bool (Op.bytesLess a.toList b.toList||a.toList==b.toList))
 | .gtr=>some (.bool (!(Op.bytesLess a.toList b.toList||a.toList==b.toList)))
 | .geq=>some (.bool (!Op.bytesLess a.toList b.toList))
 |_=>none
def binK {R:Type} (op:BinOp) (t:TypeId) (a b:SV) (K:PC→Option R):Option R:=
 match a,b with
 | .one (.int k x),.one (.int k' y)=>
   if k=k' then (match op with
    | .quo=>bif y==0 then none else K (.int k (k.wrap (x.tdiv y)))
    | .rem=>bif y==0 then none else K (.int k (x.tmod y))
    |_=>match xhw op k x y with|some c=>K c|none=>none) else none
 | .one (.str x),.one (.str y)=>
   (match op with
    | .add=>bif decide (x.size+y.size≤9223372036854775807) then K (.str (x++y)) else none
    |_=>match xfz op x y with|some c=>K c|none=>none)
 | .one (.bool x),.one (.bool y)=>(match E.ti t with
  |some i=>(match i.d,op with| .bool,.eql=>K (.bool (x==y))| .bool,.neq=>K (.bool (!(x==y)))|_,_=>none)
  |none=>none)
 | .one (.slice _ _ xs _),.one .nilS=>(match E.ti t with
  |some i=>(match i.d,op,xs with| .slice _,.eql,_::_=>K (.bool false)| .slice _,.neq,_::_=>K (.bool true)|_,_,_=>none)
  |none=>none)
 | .agg x,.agg y=>
   (match E.ti t with
    |some i=>if i.eq=true then (match i.ty with
     |some u=>(match u.ofPC x,u.ofPC y,op with|some a,some b,.eql=>K (.bool (eqD u a b))|some a,some b,.neq=>K (.bool (!(eqD u a b)))|_,_,_=>none)
     |none=>none) else none
    |none=>none)
 |_,_=>none
def setCells (cs new:List PC) (off:Nat):List PC:=cs.take off++new++cs.drop (off+new.length)
def zog (place:Nat→Option (Nat×TypeId)) (σ:St):List (Nat×Operand)→List PC→Option (List PC)
 |[],cs=>some cs
 |(i,x)::r,cs=>
  match place i with
  |none=>none
  |some (off,ft)=>
   match E.ti ft,E.typed ft (σ.ev x) with
   |some i',.sv s=>if s.cells.length=i'.size∧off+i'.size≤cs.length then zog place σ r (setCells cs s.cells off) else none
   |_,_=>none
def zrj:Ty→Bool
 | .fn=>false
 | .pair a b=>zrj a&&zrj b
 |_=>true
def zvy (e:TypeId) (u:Ty) (σ:St):(parts:List (Nat×Operand))→(n i:Nat)→Option (List u.den)
 |[],n,_=>if n=0∨zrj u=true then some (List.replicate n u.dflt) else none
 |(j,x)::r,n+1,i=>
  if j=i then (match E.typed e (σ.ev x),zvy e u σ r n (i+1) with
   | .sv s,some l=>(match u.ofPC s.cells with|some x=>some (x::l)|none=>none)
   |_,_=>none) else none
 |_::_,0,_=>none
def zod (σ:St):List (Nat×Operand)→List Nat
 |[]=>[]
 |(_,x)::r=>(match σ.ev x with| .sv s=>zdk s.cells|_=>[])++zod σ r
def qye (g:Nat):List PC→Option (Σ t:Ty,TypeId×List t.den)
 |[]=>none
 | .slice e t xs (.own n)::r=>bif Nat.beq n g then some ⟨t,e,xs⟩ else qye g r
 |_::r=>qye g r
def zzn (g:Nat):List (Nat×PV)→Option (Σ t:Ty,TypeId×List t.den)
 |[]=>none
 |(_,.sv s)::r=>match qye g s.cells with|some x=>some x|none=>zzn g r
 |_::r=>zzn g r
def PC.qij (g:Nat) (u:Ty) (ys:List u.den):PC→PC
 | .slice e t xs (.own n)=>bif Nat.beq n g then (if h:u=t then .slice e t (h▸ys) (.own n) else .dead) else .slice e t xs (.own n)
 |c=>c
def chunk (u:Ty) (sz:Nat):(n:Nat)→List PC→Option (List u.den)
 |0,_=>some []
 |n+1,cs=>match u.ofPC (cs.take sz),chunk u sz n (cs.drop sz) with
  |some x,some l=>some (x::l)
  |_,_=>none
def zmy {α:Type}:List (Int×List α)→Int→List α
 |[],_=>[]
 |x::r,n=>bif decide (x.1=n) then x.2 else zmy r n
def zkf {R:Type} (σ:St) (t:TypeId) (p:PV) (K:SV→Option R):Option R:=
 match E.ti t with
 |none=>none
 |some i=>
  match p with
  | .sv (.one (.box d off))=>(match getB σ.b d with
    |some (_,cs)=>if off+i.size≤cs.length then (match E.mkSV t ((cs.drop off).take i.size) with|some s=>K s|none=>none) else none
    |none=>none)
  | .sv (.one (.elem u x))=>(match i.ty with
    |some u'=>if u'=u∧u.isMap=false then (match E.mkSV t (u.toPC x) with|some s=>K s|none=>none) else none
    |none=>none)
  | .sv (.one (.pinp b f))=>if i.size=1∧i.agg=false then K (.one (.pin b f)) else none
  | .sv (.one (.elemT u' g n off))=>(match zzn g σ.s with
    |some ⟨u,_,xs⟩=>if u'=u∧off+i.size≤u.sz then (match E.mkSV t (((u.toPC (rd u xs n)).drop off).take i.size) with|some s=>K s|none=>none) else none
    |none=>none)
  |_=>none
def qmj {R:Type} (σ:St) (t:TypeId) (p:PV) (x:SV) (K:St→Option R):Option R:=
 match E.ti t with
 |none=>none
 |some i=>
  if x.cells.length=i.size then
   match p with
   | .sv (.one (.box d off))=>(match getB σ.b d with
     |some (tid,cs)=>if off+i.size≤cs.length then K {σ with b:=(d,(tid,setCells cs x.cells off))::delB σ.b d} else none
     |none=>none)
   | .sv (.one (.elemT u' g n off))=>(match zzn g σ.s with
     |some ⟨u,_,xs⟩=>if u'=u∧off+i.size≤u.sz then
      (match u.ofPC (setCells (u.toPC (rd u xs n)) x.cells off) with
       |some y=>bif mem (zdk x.cells) g then none else K ((σ.release (zdk x.cells)).map (PC.qij g u (xs.set n.toNat y)))
       |none=>none) else none
     |none=>none)
   |_=>none
  else none
def zkd (σ:St):Option Operand→Option (Option Int)
 |none=>some none
 |some x=>match σ.ev x with| .sv (.one (.int _ n))=>some (some n)|_=>none
def qeq {R:Type} (i:TI) (σ:St) (d:Option Nat) (x:PV) (lo hi mx:Option Operand) (K:St→Option R):Option R:=
 match zkd σ lo,zkd σ hi,zkd σ mx with
 |some lo,some hi,some mx=>
  (match x with
  | .sv (.one (.str s))=>
    let l:=lo.getD 0;let h:=hi.getD (s.size:Int)
    (match i.d,mx with| .str,none=>bif zbe l h s.size then K (σ.put d (.sv (.one (.str (s.extract l.toNat h.toNat))))) else none|_,_=>none)
  | .sv (.one (.slice e t xs g))=>
    let l:=lo.getD 0;let h:=hi.getD (xs.length:Int)
    let σ':=σ.release g.names
    if i.ty=some (.slice e t) then (match mx with
    |none=>bif zbe l h xs.length then K (σ'.put d (.sv (.one (.slice e t (cut xs l h) (match g,hi with| .nil,_=>.nil| .exact,none=>.exact|_,_=>.no))))) else none
    |some m=>(match hi with
     |some _=>bif zbe l h xs.length&&decide (m=h) then K (σ'.put d (.sv (.one (.slice e t (cut xs l h) .exact)))) else none
     |none=>none)) else none
  | .sv (.one (.glob g))=>(match lo,hi,mx,E.glob g,i.d with
    |none,none,none,some (e,u,n),.array n' e'=>if e'=e∧n'=n then K (σ.put d (.sv (.one (.slice e u (E.yqu g u) .exact)))) else none
    |_,_,_,_,_=>none)
  |_=>none)
 |_,_,_=>none
def zai (n bytes:Nat):Bool:=decide (n*bytes≤140737488355328)
def zwh {R:Type} (σ:St) (d:Option Nat) (ty:TypeId) (s x:PV) (K:St→Option R):Option R:=
 match E.ti ty with
 |none=>none
 |some i=>
 match i.d,i.ty,d with
 | .slice e,some (.slice e' u),some d=>
   (match E.ti e with
   |none=>none
   |some ie=>
    if e'=e∧(0<ie.size)∧ie.size=u.sz then
    match (match s with| .sv (.one .nilS)=>some ([],Tag.nil)| .sv (.one (.slice e1 u1 xs g))=>if h:e1=e∧u1=u then some ((h.2▸xs:List u.den),g) else none|_=>none),
     (match x with| .sv (.one .nilS)=>some []| .sv (.one (.slice e1 u1 ys _))=>if h:e1=e∧u1=u then some (h.2▸ys:List u.den) else none|_=>none) with
    |some (xs,g),some ys=>
     (match g with
     | .no=>none
     | .exact=>bif zai (xs.length+ys.length) ie.bytes then K (σ.put (some d) (.sv (.one (.slice e u (xs++ys) .no)))) else none
     | .nil=>bif zai (xs.length+ys.length) ie.bytes then K ((σ.kill [zcc d 0 0]).put (some d) (.sv (.one (.slice e u (xs++ys) (.own (zcc d 0 0)))))) else none
     | .own n=>bif zai (xs.length+ys.length) ie.bytes then K ((σ.kill [n,zcc d 0 0]).put (some d) (.sv (.one (.slice e u (xs++ys) (.own (zcc d 0 0)))))) else none)
    |_,_=>none
    else none)
 |_,_,_=>none
def qkj {R:Type} (σ:St) (d:Option Nat) (ty ty':TypeId) (s x:PV) (K:St→Option R):Option R:=
 match E.ti ty,E.ti ty',d with
 |some i,some i',some d=>(match i.d,i'.d,i.ty with
  | .slice e,.int _,some (.slice e' u)=>(match E.ti e,s,x with
    |some ie,.sv (.one (.slice e1 u1 _ .nil)),.sv (.one (.int .i64 n))=>
     if e'=e∧e1=e∧u1=u∧(0<ie.size)∧ie.size=u.sz∧zrj u=true∧ie.ty=some u then
      bif decide (0≤n)&&zai n.toNat ie.bytes then K ((σ.kill [zcc d 0 0]).put (some d) (.sv (.one (.slice e u (List.replicate n.toNat u.dflt) (.own (zcc d 0 0)))))) else none
     else none
    |_,_,_=>none)
  |_,_,_=>none)
 |_,_,_=>none
def qlw (σ:St):List Operand→Option (List SV)
 |[]=>some []
 |x::r=>match σ.ev x,qlw σ r with
  | .sv s,some l=>some (s::l)
  |_,_=>none
def zfv:List TypeId→List SV→List SV
 |t::ts,s::ss=>(match E.typed t (.sv s) with| .sv s'=>s'|_=>s)::zfv ts ss
 |_,ss=>ss
def yau (d:Nat) (ks:List Kd) (x:Tup ks):PV:=
 match zkg d 0 ks x with
 |[]=>.undef
 |[s]=>.sv s
 |l=>.tup l
def ownNames (d:Nat):Nat→List Kd→List Nat
 |_,[]=>[]
 |j,k::ks=>k.own.map (zcc d j)++ownNames d (j+1) ks
abbrev Runs (E:Env):=(f:Nat)→Tup (E.sig f).args→Option (Tup (E.sig f).res)
def qkg (c:Cap):SV:=bif c.ptr then .one (.elem c.t c.x) else Kd.unpack 0 0 (.v c.t []) c.x
def qud (t:Ty):(ks:List Kd)→Tup ks→Option t.den
 |[.v t' []],x=>if h:t'=t then some (h▸x) else none
 |_,_=>none
def zeg (run:Runs E) (v:FnV) (args:List SV) (t:Ty):Option t.den:=
 bif (E.sig v.f).io then none else
 match zdl ⟨[],[]⟩ (E.sig v.f).args (args++v.caps.map qkg),handed ⟨[],[]⟩ (zll 0 (E.sig v.f).args) (args++v.caps.map qkg) with
 |some x,some h=>bif h.rb.isEmpty&&h.srcs.isEmpty then (run v.f x).bind fun r=>qud t (E.sig v.f).res r else none
 |_,_=>none
def yhs (t:Ty) (args:List SV):List Nat:=bif t.flat then [] else args.flatMap fun s=>zdk s.cells
def zep (u:Ty) (x:u.den):SV:=Kd.unpack 0 0 (.v u []) x
def eqT:(u:Ty)→u.den→u.den→Bool
 | .bool,x,y=>x==y
 | .int _,x,y=>decide (x=y)
 | .str,x,y=>decide (x.data.toList=y.data.toList)
 | .fn,x,y=>Nat.beq x y
 | .slice _ t,xs,ys=>Nat.beq xs.length ys.length&&(xs.zip ys).all fun p=>eqT t p.1 p.2
 | .pair a b,x,y=>eqT a x.1 y.1&&eqT b x.2 y.2
def ltO {α:Type} (cf:α→α→Option Int) (x y:α):Bool:=match cf x y with|some n=>decide (n<0)|none=>false
def ygp (u:Ty) (cf:u.den→u.den→Option Int) (xs:List u.den):Bool:=
 xs.all fun x=> !ltO cf x x&&xs.all fun y=>(cf x y).isSome&&((ltO cf x y||(ltO cf y x||eqT u x y))&&xs.all fun z=>(!(ltO cf x y&&ltO cf y z)||ltO cf x z)&&(ltO cf x y||(ltO cf y z|| !ltO cf x z)))
def zly (u:Ty) (cf:u.den→u.den→Option Int) (xs:List u.den):Option (List u.den):=
 bif decide (xs.length≤4611686018427387903)&&ygp u cf xs then some (xs.mergeSort fun x y=> !ltO cf y x) else none
def zcv {α:Type} (ef:α→α→Bool):α→List α→List α
 |_,[]=>[]
 |p,y::r=>bif ef y p then zcv ef y r else y::zcv ef y r
def zaf {α:Type} (ef:α→α→Bool):List α→List α
 |[]=>[]
 |x::r=>x::zcv ef x r
def zdg {α:Type} (eq:α→α→Option Bool) (xs:List α):Option (List α):=
 bif xs.all fun x=>xs.all fun y=>(eq x y).isSome then some (zaf (fun x y=>(eq x y).getD false) xs) else none
def rowK {R:Type} (run:Runs E) (σ:St) (d:Option Nat) (f:Nat) (args:List SV) (K:St→Option R):Option R:=
 match E.rows f,args,d with
 |some (b,e,u),[.one (.slice e' u' xs (.own g)),.one (.clo c caps)],some d=>
  if e'=e∧u'=u then
   bif b then (zdg (fun x y=>zeg E run ⟨c,caps⟩ [zep u' x,zep u' y] .bool) xs).bind fun ys=>K ((σ.kill [g,zcc d 0 0]).put (some d) (.sv (.one (.slice e' u' ys (.own (zcc d 0 0))))))
   else (zly u' (fun x y=>zeg E run ⟨c,caps⟩ [zep u' x,zep u' y] (.int .i64)) xs).bind fun ys=>K ((σ.map (PC.qij g u' ys)).put (some d) .undef)
  else none
 |_,_,_=>none
def pinK {R:Type} (σ:St) (d:Option Nat) (v:Nat) (args:List SV) (K:St→Option R):Option R:=
 match getB σ.b 3,d with
 |some (tid,[.slice e u xs (.own n)]),some d=>(E.pinF v tid e args u xs).bind fun ys=>K (({s:=(σ.kill [n,192]).s,b:=(3,(tid,[.slice e u ys (.own 192)]))::delB (σ.kill [n,192]).b 3}:St).put (some d) .undef)
 |_,_=>none
def revK {R:Type} (p:TypeId×Ty) (σ:St) (d:Option Nat) (args:List SV) (K:St→Option R):Option R:=
 match args,d with
 |[.one (.slice e' u' xs (.own g))],some d=>if e'=p.1∧u'=p.2 then K ((σ.map (PC.qij g u' xs.reverse)).put (some d) .undef) else none
 |_,_=>none
def qww {R:Type} (run:Runs E) (σ:St) (d:Option Nat) (f:Nat) (args:List SV) (K:St→Option R):Option R:=
 bif (E.sig f).io then (match E.revs f with|some p=>revK p σ d args K|none=>rowK E run σ d f args K) else
 match zdl σ (E.sig f).args args,handed σ (zll 0 (E.sig f).args) args with
 |some x,some h=>
  (match h.rb with
  |[]=>bif (E.sig f).res.all Kd.qcm||h.pm.isEmpty then
   (run f x).bind fun r=>
    let rl:=bif (E.sig f).res.all Kd.qcm then [] else h.pl
    K (match d with
     |some d=>(((σ.kill h.srcs).release rl).kill (ownNames d 0 (E.sig f).res)).put (some d) (yau d (E.sig f).res r)
     |none=>(σ.kill h.srcs).release rl)
   else none
  |_::_=>none)
 |_,_=>none
def qym (σ:St):List Operand→Option (St×List Cap)
 |[]=>some (σ,[])
 |x::r=>
  match σ.ev x with
  | .sv (.one (.box d 0))=>(match getB σ.b d with
    |some (tid,cs)=>(match E.ty tid with
     |some t=>(match t.ofPC cs with
      |some y=>
       bif t.isMap then none else (match qym (((σ.release (zdk cs)).map (PC.frozen d t y)).del d) r with
       |some (σ',l)=>some (σ',⟨true,t,y⟩::l)
       |none=>none)
      |none=>none)
     |none=>none)
    |none=>none)
  | .sv (.one (.elem t y))=>(match qym σ r with|some (σ',l)=>some (σ',⟨true,t,y⟩::l)|none=>none)
  |_=>none
def opK {R:Type} (run:Runs E) (σ:St) (o:Oper) (K:St→Option R):Option R:=
 let put (v:PV):Option R:=K (σ.put o.dst v)
 match o.op with
 | .move x| .assign x=>put (E.typed o.type (σ.ev x))
 | .pick c a b=>(match σ.ev c with
   | .sv (.one (.bool t))=>bif t then put (E.typed o.type (σ.ev a)) else put (E.typed o.type (σ.ev b))
   |_=>none)
 | .alloc t=>(match E.ti t,o.dst with
   |some i,some d=>(match i.ty with|some u=>K (σ.qbz d t (ztz u))|none=>none)
   |_,_=>none)
 | .box t x=>(match E.ti t,o.dst,E.typed t (σ.ev x) with
   |some i,some d,.sv s=>if s.cells.length=i.size then K (σ.qbz d t s.cells) else none
   |_,_,_=>none)
 | .build t parts=>(match E.ti t with
   |some i=>(match i.d,i.ty with
    | .struct fs,some u=>(match zog E (fun j=>fs[j]?) σ parts.toList (ztz u) with|some cs=>put (.sv (.agg cs))|none=>none)
    | .array n e,some u=>(match E.ti e with
      |some ie=>(match zog E (fun j=>if j<n then some (j*ie.size,e) else none) σ parts.toList (ztz u) with|some cs=>put (.sv (.agg cs))|none=>none)
      |none=>none)
    |_,_=>none)
   |none=>none)
 | .buildSlice t n parts=>(match E.ti t with
   |some i=>(match i.d,i.ty with
    | .slice e,some (.slice e' u)=>(match E.ti e with
      |some ie=>if e'=e∧n*ie.size≤16777216∧ie.size=u.sz∧ie.ty=some u then
       (match zvy E e u σ parts.toList n 0 with
       |some l=>(match o.dst with
        |some d=>K (((σ.release (zod σ parts.toList)).kill [zcc d 0 0]).put (some d) (.sv (.one (.slice e u l (bif E.lits o.pos then .exact else .own (zcc d 0 0))))))
        |none=>none)
       |none=>none) else none
      |none=>none)
    |_,_=>none)
   |none=>none)
 | .load t p=>zkf E σ t (σ.ev p) fun s=>put (.sv s)
 | .store t p x=>(match E.typed t (σ.ev x) with
   | .sv s=>qmj E σ t (σ.ev p) s fun σ'=>K (σ'.put o.dst .undef)
   |_=>none)
 | .nilCheck x=>(match σ.ev x with
   | .sv (.one (.box d off))=>put (.sv (.one (.box d off)))
   | .sv (.one (.elem t x))=>bif t.isMap then none else put (.sv (.one (.elem t x)))
   | .sv (.one (.elemT u g i off))=>put (.sv (.one (.elemT u g i off)))
   |_=>none)
 | .binOp op t x y _=>(match E.typed t (σ.ev x),σ.ev y with
   | .sv a,.sv b=>binK E op t a b fun c=>put (.sv (.one c))
   |_,_=>none)
 | .unOp op _ x=>(match op,σ.ev x with
   | .not,.sv (.one (.bool b))=>put (.sv (.one (.bool (!b))))
   | .neg,.sv (.one (.int k n))=>put (.sv (.one (.int k (k.wrap (0-n)))))
   |_,_=>none)
 | .convert src dst x=>(match E.ti src,E.ti dst,σ.ev x with
   |some i,some j,.sv (.one (.int _ n))=>(match i.d,j.d with| .int _,.int k=>put (.sv (.one (.int k (k.wrap n))))|_,_=>none)
   |_,_,_=>none)
 | .makeFunc (.func f) first captured=>(match first.toList,qym E σ captured.toList with
   |[],some (σ',l)=>K (σ'.put o.dst (.sv (.one (.clo f l))))
   |_,_=>none)
 | .slice t x lo hi mx=>(match E.ti t with
   |some i=>bif o.pos== "slices.go:428" then (match σ.ev x,lo,mx,zkd σ hi,o.dst with
    | .sv (.one (.slice e u xs (.own g))),none,none,some (some h),some d=>if i.ty=some (.slice e u) then bif zbe 0 h xs.length then K ((σ.kill [g,zcc d 0 0]).put (some d) (.sv (.one (.slice e u (cut xs 0 h) (.own (zcc d 0 0)))))) else none else none
    |_,_,_,_,_=>qeq E i σ o.dst (σ.ev x) lo hi mx K)
    else qeq E i σ o.dst (σ.ev x) lo hi mx K
   |none=>none)
 | .fieldAddr t p f=>(match E.ti t with
   |some i=>(match i.d with
    | .struct fs=>(match fs[f]?,σ.ev p with
      |some (off,_),.sv (.one (.box d o))=>put (.sv (.one (.box d (o+off))))
      |some (off,_),.sv (.one (.elemT u g n o))=>put (.sv (.one (.elemT u g n (o+off))))
      |some _,.sv (.one (.elem u x))=>(match i.ty with
       |some u'=>if u'=u∧u.isMap=false then (match Ty.proj fs.length f u x with|some ⟨t',y⟩=>bif t'.isMap then none else put (.sv (.one (.elem t' y)))|none=>none) else none
       |none=>none)
      |_,_=>none)
    |_=>none)
   |none=>none)
 | .indexAddr t x ix=>(match E.ti t with
   |some i=>(match i.d,σ.ev x,σ.ev ix with
    | .slice e,.sv (.one (.slice e' u xs g)),.sv (.one (.int _ n))=>
      if e'=e∧i.ty=some (.slice e u) then bif zaa n xs.length then (match g with
       | .own h=>put (.sv (.one (.elemT u h n 0)))
       |_=>bif u.isMap then none else put (.sv (.one (.elem u (rd u xs n))))) else none else none
    | .array m e,.sv (.one (.box d o)),.sv (.one (.int _ n))=>(match E.ti e with
      |some ie=>if zaa n m=true then put (.sv (.one (.box d (o+n.toNat*ie.size)))) else none
      |none=>none)
    |_,_,_=>none)
   |none=>none)
 | .index t x ix=>(match E.ti t with
   |some i=>(match i.d,σ.ev x,σ.ev ix with
    | .str,.sv (.one (.str s)),.sv (.one (.int _ n))=>bif zaa n s.size then put (.sv (.one (.int .u8 (quf s n)))) else none
    | .array m e,.sv (.agg cs),.sv (.one (.int _ n))=>(match E.ti e with
      |some ie=>(match ie.ty with
       |some u=>if ie.size=u.sz∧zdk cs=[] then (match chunk u u.sz m cs with
        |some l=>bif zaa n l.length then (match E.mkSV e (u.toPC (rd u l n)) with|some s=>put (.sv s)|none=>none) else none
        |none=>none) else none
       |none=>none)
      |none=>none)
    |_,_,_=>none)
   |none=>none)
 | .lookup t m k false=>(match E.ti t with
   |some i=>(match i.d with
    | .map kt et=>(match E.ti kt,E.ti et with
      |some ik,some ie=>(match ik.d,ie.d,σ.ev m,σ.ev k with
       | .int .i64,.slice e',.sv (.one (.elem (.slice mk (.pair (.int .i64) (.slice e u))) xs)),.sv (.one (.int .i64 n))=>if e'=e∧Nat.beq mk 4611686018427387905=true∧ie.ty=some (.slice e u) then put (.sv (.one (.slice e u (zmy xs n) .no))) else none
       |_,_,_,_=>none)
      |_,_=>none)
    |_=>none)
   |none=>none)
 | .extract t ix=>(match σ.ev t with
   | .tup l=>(match l[ix]? with|some s=>put (.sv s)|none=>none)
   |_=>none)
 | .call c=>(match c.callee with
   | .builtin .len=>(match c.args.toList,c.argTypes.toList with
     |[x],[ty]=>(match E.ti ty with
      |some i=>(match i.d,σ.ev x with
       | .slice _,.sv (.one (.slice _ _ xs _))=>put (.sv (.one (.int .i64 (xs.length:Int))))
       | .str,.sv (.one (.str s))=>put (.sv (.one (.int .i64 (s.size:Int))))
       |_,_=>none)
      |none=>none)
     |_,_=>none)
   | .builtin .cap=>(match c.args.toList,c.argTypes.toList with
     |[x],[ty]=>(match E.ti ty with
      |some i=>(match i.d,σ.ev x with
       | .slice _,.sv (.one (.slice _ _ _ .nil))=>put (.sv (.one (.int .i64 0)))
       |_,_=>none)
      |none=>none)
     |_,_=>none)
   | .builtin .append=>(match c.args.toList,c.argTypes.toList with
     |[s,x],[ty,ty']=>if ty=ty' then zwh E σ o.dst ty (σ.ev s) (σ.ev x) K else qkj E σ o.dst ty ty' (σ.ev s) (σ.ev x) K
     |_,_=>none)
   | .builtin .max=>(match c.args.toList with
     |[x,y]=>(match σ.ev x,σ.ev y with
      | .sv (.one (.int k a)),.sv (.one (.int _ b))=>put (.sv (.one (.int k (if b>a then b else a))))
      |_,_=>none)
     |_=>none)
   | .builtin .min=>(match c.args.toList with
     |[x,y]=>(match σ.ev x,σ.ev y with
      | .sv (.one (.int k a)),.sv (.one (.int _ b))=>put (.sv (.one (.int k (if b<a then b else a))))
      |_,_=>none)
     |_=>none)
   | .value f=>(match σ.ev f,qlw σ c.args.toList with
     | .sv (.one (.clo f caps)),some args=>qww E run σ o.dst f (zfv E c.argTypes.toList args++caps.map qkg) K
     | .sv (.one (.pin _ v)),some args=>pinK E σ o.dst v (zfv E c.argTypes.toList args) K
     | .sv (.one (.fnv v)),some args=>(match E.ti o.type with
       |some i=>(match i.ty with
        |some t=>(zeg E run v (zfv E c.argTypes.toList args) t).bind fun r=>K ((σ.release (yhs t (zfv E c.argTypes.toList args))).put o.dst (.sv (Kd.unpack 0 0 (.v t []) r)))
        |none=>none)
       |none=>none)
     |_,_=>none)
   |_=>none)
 |_=>none
inductive Ex where
 |normal
 |exit (id:Nat)
 |goto (l:Nat)
 |ret
 deriving DecidableEq
def qfh {R:Type} (σ:St) (slot:Nat) (want:Bool) (go skip:St→Option R):Option R:=
 match σ.get slot with
 | .sv (.one (.bool b))=>
   bif b then (bif want then go (σ.put (some slot) (.sv (.one (.bool true)))) else skip (σ.put (some slot) (.sv (.one (.bool true)))))
   else (bif want then skip (σ.put (some slot) (.sv (.one (.bool false)))) else go (σ.put (some slot) (.sv (.one (.bool false)))))
 | .void=>skip σ
 |_=>none
def opGK {R:Type} (run:Runs E) (all:List Oper) (σ:St) (o:Oper) (K:St→Option R):Option R:=
 match o.guard with
 |none=>opK E run σ o K
 |some (j,want)=>match (all[j]?).bind (·.dst) with
  |none=>none
  |some slot=>qfh σ slot want (fun σ'=>opK E run σ' o K) (fun σ'=>K (σ'.put o.dst .void))
def opsK {R:Type} (run:Runs E) (all:List Oper):List Oper→St→(St→Option R)→Option R
 |[],σ,K=>K σ
 |o::r,σ,K=>opGK E run all σ o fun σ'=>opsK run all r σ' K
def qco (e:Ex):List Ex→Nat→Option Nat
 |[],_=>none
 |x::r,i=>if x=e then some i else qco e r (i+1)
def qwk {hs os:Shape} (ex:List Ex) (body:St→(Ex→St→Option (Nat×Tup os.ks))→Option (Nat×Tup os.ks)):
 Nat→Tup hs.ks→Option (Nat×Tup os.ks)
 |0,_=>none
 |n+1,x=>body (stOf hs x) fun e σ=>match e with
  | .normal=>(match zks σ hs with|some y=>qwk ex body n y|none=>none)
  |e=>(match qco e ex 0,zks σ os with|some i,some y=>some (i,y)|_,_=>none)
def qim {hs os:Shape} (l:Nat) (ex:List Ex) (body:St→(Ex→St→Option (Nat×Tup os.ks))→Option (Nat×Tup os.ks)):
 Nat→Tup hs.ks→Option (Nat×Tup os.ks)
 |0,_=>none
 |n+1,x=>body (stOf hs x) fun e σ=>match e with
  | .goto l'=>if l'=l then (match zks σ hs with|some y=>qim l ex body n y|none=>none)
    else (match qco e ex 0,zks σ os with|some i,some y=>some (i,y)|_,_=>none)
  |e=>(match qco e ex 0,zks σ os with|some i,some y=>some (i,y)|_,_=>none)
def qmz {R:Type} (i:Nat) (K:Ex→Option R):List Ex→Nat→Option R
 |[],_=>none
 |[e],_=>K e
 |e::e'::r,j=>bif Nat.beq i j then K e else qmz i K (e'::r) (j+1)
def xja (a b:List Ex):List Ex:=a++b.filter fun e=> !(a.any fun x=>decide (x=e))
def qol:Code→List Ex
 | .skip| .region .. | .label _| .rangeFunc .. | .refuse _=>[]
 | .seq a b=>xja (qol a) (qol b)
 | .cond _ a b=>xja (qol a) (qol b)
 | .block id c=>(qol c).filter fun e=> !decide (e= .exit id)
 | .loop c=>qol c
 | .scope c=>qol c
 | .exit id=>[.exit id]
 | .goto l=>[.goto l]
 | .ret=>[.ret]
def zjc:Code→List Nat
 | .seq a b=>zjc a++zjc b
 | .label l=>[l]
 |_=>[]
def Ex.inside (ls:List Nat):Ex→Bool
 | .goto l=>mem ls l
 |_=>false
def PC.refs:PC→List Nat
 | .slice _ _ _ (.own n)=>[n/64]
 | .elemT _ g _ _=>[g/64]
 | .box d _=>[d]
 | .pin _ _=>[3]
 | .pinp _ _=>[3]
 |_=>[]
def SV.refs (s:SV):List Nat:=s.cells.flatMap PC.refs
def PV.refs:PV→List Nat
 | .sv s=>s.refs
 | .tup l=>l.flatMap SV.refs
 |_=>[]
def ylh:List (Nat×PV)→List Nat
 |[]=>[]
 |(_,p)::r=>p.refs++ylh r
def ydk:List (Nat×(TypeId×List PC))→List Nat
 |[]=>[]
 |(d,(_,cs))::r=>d::(cs.flatMap PC.refs++ydk r)
def St.refs (σ:St):List Nat:=ylh σ.s++ydk σ.b
def okV (σ:St) (o:Oper) (d:Nat):Bool:=
 match o.op with
 | .move _| .assign _| .pick .. | .build .. | .binOp .. | .unOp .. | .convert .. | .fieldAddr .. | .indexAddr .. | .index .. | .extract .. | .lookup .. | .nilCheck .. =>true
 | .load _ p=>(match σ.ev p with| .sv (.one (.elemT ..))=>false|_=>true)
 | .buildSlice _ _ parts=>(match zod σ parts.toList with|[]=>true|_::_=>false)
 | .slice _ x _ _ _=> !(o.pos== "slices.go:428")&&(match σ.ev x with| .sv (.one (.slice _ _ _ (.own _)))=>false|_=>true)
 | .call c=>(match c.callee with
   | .builtin .len| .builtin .cap| .builtin .max| .builtin .min=>true
   | .builtin .append=>(match c.args.toList,c.argTypes.toList with
     |[s,_],[ty,ty']=>decide (ty=ty')&&(match σ.ev s with| .sv (.one (.slice _ _ _ .exact))=>true| .sv (.one (.slice _ _ _ .nil))=>true|_=>false)
     |_,_=>false)
   | .value f=>(match σ.ev f,qlw σ c.args.toList with
     | .sv (.one (.clo f caps)),some args=>bif (E.sig f).io then false else (match handed σ (zll 0 (E.sig f).args) (zfv E c.argTypes.toList args++caps.map qkg) with
       |some h=>(match h.srcs,(bif (E.sig f).res.all Kd.qcm then [] else h.pl) with
        |[],[]=>(ownNames d 0 (E.sig f).res).all fun n=>Nat.beq (n/64) d
        |_,_=>false)
       |none=>false)
     | .sv (.one (.fnv _)),some args=>(match E.ti o.type with
       |some i=>(match i.ty with
        |some t=>(match yhs t (zfv E c.argTypes.toList args) with|[]=>true|_::_=>false)
        |none=>true)
       |none=>true)
     |_,_=>false)
   |_=>false)
 |_=>false
def znc:List Oper→List Nat→List Nat
 |[],acc=>acc
 |o::r,acc=>znc r (acc++[o.after.toList.foldl (fun s e=>bif Region.binds .any e then s ||| 2 ^ e.on ||| acc.getD e.on 0 else s) 0])
def qhc:Nat→List Oper→Bool
 |_,[]=>true
 |i,o::r=>(o.after.toList.all fun e=> !Region.binds .any e||decide (e.on<i))&&qhc (i+1) r
def zvx:List Nat→Nat→Nat→Nat
 |[],_,acc=>acc
 |b::r,k,acc=>zvx r (k+1) (bif Nat.beq b (2 ^ k-1) then acc else k+1)
def idxN (s:Nat):List Nat→Nat→Option Nat
 |[],_=>none
 |x::r,k=>bif Nat.beq x s then some k else idxN s r (k+1)
def qwt (bs ds:List Nat) (i s:Nat):Bool:=match idxN s ds 0 with|none=>true|some k=>Nat.testBit (bs.getD i 0) k
def qeh (bs ds:List Nat) (i s:Nat):Bool:=match idxN s ds 0 with|none=>true|some k=>Nat.beq k i||Nat.testBit (bs.getD i 0) k
def zjb (all:List Oper) (o:Oper):List Nat:=
 (o.op.operands.toList.filterMap fun x=>match x with| .tmp t=>some t|_=>none)++(match o.guard with|some (g,_)=>((all[g]?).bind (·.dst)).toList|none=>[])
def isLit:Op→Bool
 | .buildSlice .. =>true
 |_=>false
def xkh (d:Nat):Operand→Bool
 | .tmp t=>Nat.beq t d
 |_=>false
def qpf (all:List Oper) (d:Nat):Bool:=all.any fun o=>match o.op with
 | .call c=>(match c.callee with| .value _=>c.args.toList.any (xkh d)|_=>false)
 |_=>false
def xff:Op→Bool
 | .call _=>true
 |_=>false
def xki (all:List Oper) (d:Nat):Bool:=all.any fun o=>match o.op with
 | .buildSlice _ _ parts=>parts.toList.any fun p=>xkh d p.2
 |_=>false
def PV.anon (all:List Oper) (op:Op) (d:Nat) (p:PV):PV:=bif (isLit op&&qpf all d)||(xff op&&(xki all d||qpf all d)) then p.map (PC.zcs fun n=>bif mem [zcc d 0 0] n then some true else none) else p
def xjy (σ:St) (t:Nat):List Nat:=match σ.get t with| .sv (.one (.slice _ _ _ (.own n)))=>[n]|_=>[]
def ykd (σ:St) (l:List Oper):Operand→List Nat
 | .tmp t=>xjy σ t++l.flatMap fun o'=>bif (match o'.dst with|some d=>Nat.beq d t|none=>false) then (match o'.op with| .move (.tmp t')=>xjy σ t'|_=>[]) else []
 |_=>[]
def yuh (σ:St) (l:List Oper):List Nat:=l.flatMap fun o=>match o.op with
 | .indexAddr _ x _=>ykd σ l x
 | .slice _ x _ _ _=>ykd σ l x
 | .call c=>(match c.callee with| .value _=>c.args.toList.flatMap (ykd σ l)|_=>[])
 |_=>[]
def ymv (o:Oper):Option Nat:=match o.op with
 | .store _ (.tmp k) _=>some k
 |_=>none
def dOf (o:Oper):Nat:=match o.dst with
 |some d=>d
 |none=>match ymv o with|some k=>1000000+k|none=>0
def xdk (σ:St) (nb:List (Nat×(TypeId×List PC))) (o:Oper):Option (Nat×(TypeId×List PC)):=match o.op with
 | .store t (.tmp k) x=>(match E.typed t (σ.ev x),σ.get k,E.ti t,getB nb k with
   | .sv s,.sv (.one (.box k' 0)),some ti,some (tid,cs)=>bif Nat.beq k' k&&(Nat.beq s.cells.length ti.size&&decide (ti.size≤cs.length)) then some (k,(tid,setCells cs s.cells 0)) else none
   |_,_,_,_=>none)
 |_=>none
def qek (run:Runs E) (all:List Oper) (bs ds nn:List Nat) {R:Type}:Nat→List Oper→St→List (Nat×(TypeId×List PC))→(St→List (Nat×(TypeId×List PC))→Option R)→Option R
 |_,[],σ,nb,K=>K σ nb
 |i,o::r,σ,nb,K=>
  match o.dst with
  |none=>(match o.guard with
   |some _=>none
   |none=>(match xdk E σ nb o with
    |none=>none
    |some (k,v)=>bif (zjb all o).all (qwt bs ds i)&&((idxN k ds 0).isSome&&(mem nn k&&v.2.all fun c=>c.refs.all (qeh bs ds i))) then qek run all bs ds nn (i+1) r (σ.put (some (dOf o)) .undef) ((k,v)::nb) K else none))
  |some d=>
   bif (zjb all o).all (qwt bs ds i) then
    let next (σ1:St) (pv:PV) (nb':List (Nat×(TypeId×List PC))):Option R:=bif pv.refs.all (qeh bs ds i) then qek run all bs ds nn (i+1) r (σ1.put (some d) pv) nb' K else none
    let go (σ1:St):Option R:=match o.op with
     | .alloc t=>(match E.ti t with
       |some ti=>(match ti.ty with
        |some u=>bif zrj u&&mem nn d then next σ1 (.sv (.one (.box d 0))) ((d,(t,ztz u))::nb) else none
        |none=>none)
       |none=>none)
     |_=>bif okV E σ1 o d&&(o.op.operands.toList.all fun x=>(σ1.ev x).refs.all fun s=> !mem nn s) then opK E run σ1 o fun σ'=>next σ1 ((σ'.get d).anon all o.op d) nb else none
    match o.guard with
    |none=>go σ
    |some (j,want)=>(match (all[j]?).bind (·.dst) with
     |none=>none
     |some slot=>qfh σ slot want go fun σ1=>next σ1 .void nb)
   else none
def ywc:Op→Bool
 | .alloc _=>true
 |_=>false
def qyj (run:Runs E) (all:List Oper) {R:Type} (σ:St) (K:St→Option R):Option R:=
 let bs:=znc all []
 let m:=zvx bs 0 0
 let ds:=(all.take m).map dOf
 let nn:=(all.take m).filterMap fun o=>bif ywc o.op then o.dst else none
 bif nodup ds&&(qhc 0 all&&σ.refs.all fun s=> !mem ds s) then
  qek E run all bs ds nn 0 (all.take m) σ [] fun σ1 nb=>opsK E run all (all.drop m) {s:=σ1.s,b:=nb++σ1.b} K
 else none
def xcu (run:Runs E) (all:List Oper) {R:Type} (σ:St) (K:St→Option R):Option R:=
 qyj E run all (σ.release (yuh σ (all.take (zvx (znc all []) 0 0)))) K
def zft (run:Runs E) (fuel f:Nat):Code→(cur:Nat)→(j:Option Nat)→{R:Type}→St→(Ex→St→Option R)→Option R
 | .skip,_,none,_,σ,K=>K .normal σ
 | .region _ ops dr,_,none,_,σ,K=>bif dr then xcu E run ops.toList σ (fun σ'=>K .normal σ') else opsK E run ops.toList ops.toList σ fun σ'=>K .normal σ'
 | .seq a b,cur,none,_,σ,K=>zft run fuel f a cur none σ fun e σ'=>match e with
   | .normal=>zft run fuel f b cur none σ' K
   |e=>K e σ'
 | .seq a b,cur,some l,_,σ,K=>
   bif mem (zjc a) l then (zft run fuel f a cur (some l) σ fun e σ'=>match e with
    | .normal=>zft run fuel f b cur none σ' K
    |e=>K e σ')
   else zft run fuel f b cur (some l) σ K
 | .cond (.tmp c) a b,cur,none,_,σ,K=>match σ.get c with
   | .sv (.one (.bool t))=>bif t then zft run fuel f a cur none (σ.put (some c) (.sv (.one (.bool true)))) K
     else zft run fuel f b cur none (σ.put (some c) (.sv (.one (.bool false)))) K
   |_=>none
 | .block id c,_,none,_,σ,K=>zft run fuel f c id none σ fun e σ'=>match e with
   | .exit id'=>if id'=id then K .normal σ' else K (.exit id') σ'
   |e=>K e σ'
 | .loop c,cur,none,_,σ,K=>match E.shape f cur with
   |none=>none
   |some (hs,os)=>match zks σ hs with
    |none=>none
    |some x=>(qwk (hs:=hs) (os:=os) (qol c) (fun σ' K'=>zft run fuel f c cur none σ' K') fuel x).bind fun r=>qmz r.1 (fun e=>K e (stOf os r.2)) (qol c) 0
 | .scope c,cur,none,_,σ,K=>zft run fuel f c cur none σ fun e σ'=>match e with
   | .goto l=>bif mem (zjc c) l then (match E.shape f (1000+l) with
     |some (hs,os)=>(match zks σ' hs with
      |none=>none
      |some x=>(qim (hs:=hs) (os:=os) l ((qol c).filter fun e=> !decide (e= .goto l)) (fun σ' K'=>zft run fuel f c cur (some l) σ' K') fuel x).bind fun r=>qmz r.1 (fun e=>bif e.inside (zjc c) then none else K e (stOf os r.2)) ((qol c).filter fun e=> !decide (e= .goto l)) 0)
     |_=>none) else K (.goto l) σ'
   |e=>K e σ'
 | .exit id,_,none,_,σ,K=>K (.exit id) σ
 | .goto l,_,none,_,σ,K=>K (.goto l) σ
 | .ret,_,none,_,σ,K=>K .ret σ
 | .label _,_,none,_,σ,K=>K .normal σ
 | .label l',_,some l,_,σ,K=>bif Nat.beq l' l then K .normal σ else none
 |_,_,_,_,_,_=>none
def yua (σ:St):ResultVar→Option SV
 | .tmp t=>match σ.get t with| .sv s=>some s|_=>none
 | .cell a t=>zkf E σ t (σ.get a) some
def qrs (σ:St):List ResultVar→Option (List SV)
 |[]=>some []
 |r::rs=>match yua E σ r,qrs σ rs with
  |some s,some l=>some (s::l)
  |_,_=>none
def qip (σ:St) (rs:List ResultVar) (tys:List TypeId) (ks:List Kd):Option (Tup ks):=
 match qrs E σ rs with
 |some l=>match handed σ (zli 0 0 ks) (zfv E tys l) with
  |some h=>bif h.rb.isEmpty then zdl σ ks (zfv E tys l) else none
  |none=>none
 |none=>none
def zlu (i:Nat):(ks:List Kd)→Tup ks→List (Nat×PV)
 |[],_=>[]
 |[k],x=>[(i,.sv (k.unpack i 0 x))]
 |k::k'::ks,x=>(i,.sv (k.unpack i 0 x.1))::zlu (i+1) (k'::ks) x.2
def fnK (run:Runs E) (fuel f:Nat) (fn:Func) (x:Tup (E.sig f).args):Option (Tup (E.sig f).res):=
 match fn.body with
 |none=>none
 |some c=>zft E run fuel f c 0 none {s:=zlu 0 (E.sig f).args x,b:=[]} fun e σ=>match e with
  | .normal| .ret=>qip E σ fn.results.toList fn.resultTypes.toList (E.sig f).res
  |_=>none
def run:Nat→Runs E
 |0=>fun _ _=>none
 |k+1=>fun f x=>match E.foreign f with
  |some g=>g x
  |none=>match E.fn f with
   |some fn=>fnK E (run k) k f fn x
   |none=>none
def qno (b:Nat):Code→Nat→Option Code
 | .seq a c,cur=>match qno b a cur with|some x=>some x|none=>qno b c cur
 | .cond _ a c,cur=>match qno b a cur with|some x=>some x|none=>qno b c cur
 | .block id c,_=>qno b c id
 | .loop c,cur=>bif Nat.beq cur b then some c else qno b c cur
 | .scope c,cur=>qno b c cur
 |_,_=>none
def Env.hs (f b:Nat):Shape:=((E.shape f b).getD ([],[])).1
def Env.os (f b:Nat):Shape:=((E.shape f b).getD ([],[])).2
def lp (f b k n:Nat) (x:Tup (E.hs f b).ks):Option (Nat×Tup (E.os f b).ks):=
 match (E.fn f).bind (·.body) with
 |none=>none
 |some c=>match qno b c 0 with
  |none=>none
  |some c=>qwk (qol c) (fun σ' K'=>zft E (run E k) k f c b none σ' K') n x
end
inductive All2 {α β:Type} (R:α→β→Prop):List α→List β→Prop where
 |nil:All2 R [] []
 |cons {a:α} {b:β} {l:List α} {m:List β}:R a b→All2 R l m→All2 R (a::l) (b::m)
def Cl (F:Nat→Prop) (w:World):(t:Ty)→t.den→List Value→Prop
 | .bool,b,cs=>cs=[.bool b]
 | .int k,n,cs=>cs=[.int k n]
 | .str,s,cs=>cs=[.string s]
 | .fn,f,cs=>cs=[.func (.func f) #[] #[]]
 | .slice _ t,xs,cs=>∃A c,cs=[.slice A xs.length c]∧xs.length≤c∧
  (xs=[]∨∃a,A=some a∧¬F a.block∧∀i x,xs[i]? =some x→∃ds,Cl F w t x ds∧∀j v,ds[j]? =some v→w.cell? (a.add (i*t.sz+j))=some v)
 | .pair a b,x,cs=>∃c1 c2,cs=c1++c2∧Cl F w a x.1 c1∧Cl F w b x.2 c2
theorem Ty.zpw (t:Ty):0<t.sz:=by induction t<;>simp [Ty.sz]<;>omega
theorem Cl.length {F:Nat→Prop} {w:World}:∀{t:Ty} {x:t.den} {cs:List Value},Cl F w t x cs→cs.length=t.sz
 | .bool,_,_,h=>by rw [Cl] at h;subst h;rfl
 | .int _,_,_,h=>by rw [Cl] at h;subst h;rfl
 | .str,_,_,h=>by rw [Cl] at h;subst h;rfl
 | .fn,_,_,h=>by rw [Cl] at h;subst h;rfl
 | .slice _ _,_,_,h=>by rw [Cl] at h;obtain ⟨_,_,rfl,_⟩:=h;rfl
 | .pair a b,_,_,h=>by rw [Cl] at h;obtain ⟨c1,c2,rfl,h1,h2⟩:=h;rw [List.length_append,Cl.length h1,Cl.length h2];rfl
theorem Cl.one {F:Nat→Prop} {w:World}:∀{t:Ty} {x:t.den} {cs:List Value},Cl F w t x cs→∀v∈cs,v.oneCell'=true
 | .bool,_,_,h=>by rw [Cl] at h;subst h;intro v hv;rw [List.mem_singleton.1 hv];rfl
 | .int _,_,_,h=>by rw [Cl] at h;subst h;intro v hv;rw [List.mem_singleton.1 hv];rfl
 | .str,_,_,h=>by rw [Cl] at h;subst h;intro v hv;rw [List.mem_singleton.1 hv];rfl
 | .fn,_,_,h=>by rw [Cl] at h;subst h;intro v hv;rw [List.mem_singleton.1 hv];rfl
 | .slice _ _,_,_,h=>by rw [Cl] at h;obtain ⟨_,_,rfl,_⟩:=h;intro v hv;rw [List.mem_singleton.1 hv];rfl
 | .pair a b,_,_,h=>by
   rw [Cl] at h;obtain ⟨c1,c2,rfl,h1,h2⟩:=h;intro v hv;rcases List.mem_append.1 hv with hv|hv
   ·exact Cl.one h1 v hv
   ·exact Cl.one h2 v hv
structure Step (F F':Nat→Prop) (w w':World):Prop where
 keep:∀b,¬F b→b<w.heap.size→w'.heap[b]? =w.heap[b]?
 sub:∀b,F' b→F b∨w.heap.size≤b
theorem Step.refl (F:Nat→Prop) (w:World):Step F F w w:=⟨fun _ _ _=>rfl,fun _ h=>.inl h⟩
theorem Cl.step {F F':Nat→Prop} {w w':World} (S:Step F F' w w'):∀{t:Ty} {x:t.den} {cs:List Value},Cl F w t x cs→Cl F' w' t x cs
 | .bool,_,_,h=>by rw [Cl] at h ⊢;exact h
 | .int _,_,_,h=>by rw [Cl] at h ⊢;exact h
 | .str,_,_,h=>by rw [Cl] at h ⊢;exact h
 | .fn,_,_,h=>by rw [Cl] at h ⊢;exact h
 | .slice e t,xs,_,h=>by
   rw [Cl] at h ⊢;obtain ⟨A,c,rfl,hc,h⟩:=h;refine ⟨A,c,rfl,hc,?_⟩;rcases h with h|⟨a,rfl,hF,h⟩
   ·exact .inl h
   ·cases hx:xs with
    |nil=>exact .inl rfl
    |cons x0 r=>
     rw [←hx];have hlt:a.block<w.heap.size:=by
      obtain ⟨ds,hd,hc⟩:=h 0 x0 (by rw [hx];rfl);have hl:=hd.length;have hp:=Ty.zpw t;have:=hc 0 (ds[0]'(by omega)) (by simp);exact World.block_lt_of_cell? w (a.add (0*t.sz+0)) this |> fun h=>by
       have:(a.add (0*t.sz+0)).block=a.block:=by simp [Addr.add]
       rw [this] at h;exact h
     refine .inr ⟨a,rfl,fun hf=> ?_,fun i x hi=> ?_⟩
     ·rcases S.sub _ hf with h|h
      ·exact hF h
      ·omega
     ·obtain ⟨ds,hd,hcell⟩:=h i x hi;refine ⟨ds,Cl.step S hd,fun j v hj=> ?_⟩;have hb:(a.add (i*t.sz+j)).block=a.block:=by unfold Addr.add;split<;>rfl
      have:=hcell j v hj;rw [←this];exact World.cell?_of_block (by rw [hb];exact S.keep _ hF hlt)
 | .pair a b,_,_,h=>by rw [Cl] at h ⊢;obtain ⟨c1,c2,rfl,h1,h2⟩:=h;exact ⟨c1,c2,rfl,Cl.step S h1,Cl.step S h2⟩
structure Fr where
 bx:Nat→Option Nat
 tg:Nat→Option (Nat×Nat)
def Fr.F (A:Fr) (F0:Nat→Prop) (b:Nat):Prop:=F0 b∨(∃d,A.bx d=some b)∨∃n l,A.tg n=some (b,l)
def OwnAt (F:Nat→Prop) (w:World) (e:TypeId) (t:Ty) (xs:List t.den) (g l:Nat) (v:Value):Prop:=
 l=xs.length∧∃cap cur,v= .slice (some ⟨g,0,none⟩) xs.length cap∧w.heap[g]? =some (.cells cur e (0,0))∧xs.length≤cap∧cap≤maxLen∧cur.size=cap*t.sz∧
  ∀i x,xs[i]? =some x→∃ds,Cl F w t x ds∧∀j u,ds[j]? =some u→cur[i*t.sz+j]? =some u
def MapAt (F:Nat→Prop) (w:World):(t:Ty)→t.den→Value→Prop
 | .slice mk (.pair (.int .i64) u),xs,v=>Nat.beq mk 4611686018427387905=true∧∃b es n,v= .map (some b)∧¬F b∧w.heap[b]? =some (.map es n)∧
  All2 (fun (p:Int×u.den) (e:MapEntry)=>e.key= .int .i64 p.1∧Cl F w u p.2 [e.val]) xs es.toList
 |_,_,_=>False
def At (F:Nat→Prop) (w:World) (t:Ty) (x:t.den) (v:Value):Prop:=
 (t.isMap=false∧∃a cs,v= .pointer (some a)∧¬F a.block∧Cl F w t x cs∧∀j u,cs[j]? =some u→w.cell? (a.add j)=some u)∨MapAt F w t x v
theorem MapAt.is {F:Nat→Prop} {w:World}:∀{t:Ty} {x:t.den} {v:Value},MapAt F w t x v→t.isMap=true∧∃b,v= .map (some b)
 | .slice _ (.pair (.int .i64) _),_,_,h=>by unfold MapAt at h;obtain ⟨h1,b,es,n,hv,_⟩:=h;exact ⟨h1,b,hv⟩
 | .bool,_,_,h| .int _,_,_,h| .str,_,_,h| .fn,_,_,h| .pair _ _,_,_,h=>by unfold MapAt at h;exact h.elim
 | .slice _ .bool,_,_,h| .slice _ (.int _),_,_,h| .slice _ .str,_,_,h| .slice _ .fn,_,_,h| .slice _ (.slice _ _),_,_,h=>by unfold MapAt at h;exact h.elim
 | .slice _ (.pair .bool _),_,_,h| .slice _ (.pair .str _),_,_,h| .slice _ (.pair .fn _),_,_,h| .slice _ (.pair (.slice _ _) _),_,_,h| .slice _ (.pair (.pair _ _) _),_,_,h=>by unfold MapAt at h;exact h.elim
 | .slice _ (.pair (.int k) _),_,_,h=>by
   cases k with
   |i64=>unfold MapAt at h;obtain ⟨h1,b,es,n,hv,_⟩:=h;exact ⟨h1,b,hv⟩
   |_=>unfold MapAt at h;exact h.elim
theorem At.ptr {F:Nat→Prop} {w:World} {t:Ty} {x:t.den} {v:Value} (hm:t.isMap=false) (h:At F w t x v):
 ∃a cs,v= .pointer (some a)∧¬F a.block∧Cl F w t x cs∧∀j u,cs[j]? =some u→w.cell? (a.add j)=some u:=by
 rcases h with ⟨_,h⟩|h
 ·exact h
 ·rw [h.is.1] at hm;cases hm
theorem At.map {F:Nat→Prop} {w:World} {t:Ty} {x:t.den} {v:Value} (hm:t.isMap=true) (h:At F w t x v):MapAt F w t x v:=by
 rcases h with ⟨h,_⟩|h
 ·rw [hm] at h;cases h
 ·exact h
def RCap (F:Nat→Prop) (w:World) (c:Cap) (v:Value):Prop:=
 match c.ptr with
 |true=>At F w c.t c.x v
 |false=>Cl F w c.t c.x [v]
def RFn (F:Nat→Prop) (w:World) (f:Nat) (caps:List Cap) (v:Value):Prop:=
 ∃vs:List Value,v= .func (.func f) #[] vs.toArray∧All2 (RCap F w) caps vs
def zhh (f bo br:Nat):Value:=.func (.func f) #[] #[.pointer (some ⟨bo,0,none⟩),.pointer (some ⟨br,0,none⟩)]
def RC (F:Nat→Prop) (A:Fr) (w:World):PC→Value→Prop
 | .bool b,v=>v= .bool b
 | .int k n,v=>v= .int k n
 | .str s,v=>v= .string s
 | .nilS,v=>v= .slice none 0 0
 | .slice e t xs .no,v=>Cl F w (.slice e t) xs [v]
 | .slice _ _ xs .nil,v=>xs=[]∧∃a,v= .slice a 0 0
 | .slice e t xs .exact,v=>Cl F w (.slice e t) xs [v]∧∃a,v= .slice a xs.length xs.length
 | .slice e t xs (.own n),v=>(A.tg n=none∧xs=[]∧∃a,v= .slice a 0 0)∨∃g l,A.tg n=some (g,l)∧OwnAt F w e t xs g l v
 | .box d o,v=>∃b,A.bx d=some b∧v= .pointer (some ⟨b,o,none⟩)
 | .elem t x,v=>At F w t x v
 | .elemT u n i o,v=>∃b l,A.tg n=some (b,l)∧0≤i∧i.toNat<l∧v= .pointer (some ⟨b,i.toNat*u.sz+o,none⟩)
 | .clo f caps,v=>RFn F w f caps v
 | .fnv q,v=>RFn F w q.f q.caps v
 | .glob g,v=>v= .pointer (some ⟨g,0,none⟩)
 | .pin br f,v=>∃bo,A.bx 3=some bo∧v=zhh f bo br∧¬F br∧w.cell? ⟨br,0,none⟩=some (zhh f bo br)
 | .pinp br f,v=>∃bo,A.bx 3=some bo∧v= .pointer (some ⟨br,0,none⟩)∧¬F br∧w.cell? ⟨br,0,none⟩=some (zhh f bo br)
 | .dead,v=>v.oneCell'=true
theorem RC.one {F:Nat→Prop} {A:Fr} {w:World} {c:PC} {v:Value} (h:RC F A w c v):v.oneCell'=true:=by
 cases c with
 |slice e t xs g=>
  cases g with
  |no=>exact Cl.one h v (List.mem_singleton.2 rfl)
  |nil=>obtain ⟨_,a,rfl⟩:=h;rfl
  |exact=>exact Cl.one h.1 v (List.mem_singleton.2 rfl)
  |own n=>rcases h with ⟨_,_,a,rfl⟩|⟨g,l,_,_,cap,cur,rfl,_⟩<;>rfl
 |elem t x=>
  rcases h with ⟨_,a,cs,rfl,_⟩|h
  ·rfl
  ·obtain ⟨b,rfl⟩:=h.is.2;rfl
 |clo f caps=>obtain ⟨vs,rfl,_⟩:=h;rfl
 |fnv q=>obtain ⟨vs,rfl,_⟩:=h;rfl
 |box d o=>obtain ⟨b,_,rfl⟩:=h;rfl
 |elemT u n i o=>obtain ⟨b,l,_,_,_,rfl⟩:=h;rfl
 |dead=>exact h
 |pin b f=>obtain ⟨bo,_,rfl,_⟩:=h;rfl
 |pinp b f=>obtain ⟨bo,_,rfl,_⟩:=h;rfl
 |_=>simp only [RC] at h;subst h;rfl
abbrev RCs (F:Nat→Prop) (A:Fr) (w:World) (cs:List PC) (vs:List Value):Prop:=All2 (RC F A w) cs vs
def RS (F:Nat→Prop) (A:Fr) (w:World):SV→Value→Prop
 | .one c,v=>RC F A w c v
 | .agg cs,v=>∃vs:List Value,v= .agg vs.toArray∧RCs F A w cs vs
def RP (F:Nat→Prop) (A:Fr) (w:World):PV→Value→Prop
 | .undef,_=>True
 | .void,v=>v=undef
 | .sv s,v=>RS F A w s v
 | .tup l,v=>∃vs:List Value,v= .tuple vs.toArray∧All2 (RS F A w) l vs
theorem zuy {v:Value} (h:v.oneCell'=true):v.cells= #[v]:=by cases v<;>first|rfl|cases h
theorem RS.cells {F:Nat→Prop} {A:Fr} {w:World} {s:SV} {v:Value} (h:RS F A w s v):RCs F A w s.cells v.cells.toList:=by
 cases s with
 |one c=>rw [zuy (RC.one h)];exact .cons h .nil
 |agg cs=>obtain ⟨vs,rfl,h⟩:=h;simpa [Value.cells,SV.cells] using h
def yrk (A A':Fr) (w w':World):PC→Prop
 | .slice _ _ _ (.own n)=>(A.tg n=none→A'.tg n=none)∧∀g l,A.tg n=some (g,l)→A'.tg n=some (g,l)∧w'.heap[g]? =w.heap[g]?
 | .elemT _ n _ _=>∀g l,A.tg n=some (g,l)→A'.tg n=some (g,l)
 | .box d _=>∀b,A.bx d=some b→A'.bx d=some b
 | .pin _ _=>∀b,A.bx 3=some b→A'.bx 3=some b
 | .pinp _ _=>∀b,A.bx 3=some b→A'.bx 3=some b
 |_=>True
theorem zhn {α β:Type} {R Q:α→β→Prop} {l:List α} {m:List β} (h:All2 R l m) (hi:∀a b,a∈l→R a b→Q a b):All2 Q l m:=by
 induction h with
 |nil=>exact .nil
 |cons h0 _ ih=>exact .cons (hi _ _ (List.mem_cons_self ..) h0) (ih fun a b ha=>hi a b (List.mem_cons_of_mem _ ha))
theorem MapAt.yzs {F F':Nat→Prop} {w w':World} (S:Step F F' w w') {mk:TypeId} {u:Ty} {xs:(Ty.slice mk (.pair (.int .i64) u)).den} {v:Value} (h:MapAt F w (.slice mk (.pair (.int .i64) u)) xs v):MapAt F' w' (.slice mk (.pair (.int .i64) u)) xs v:=by
 unfold MapAt at h ⊢;obtain ⟨h1,b,es,n,hv,hF,hh,hr⟩:=h;have hlt:b<w.heap.size:=(Array.getElem?_eq_some_iff.1 hh).1;refine ⟨h1,b,es,n,hv,fun hf=> ?_,(S.keep _ hF hlt).trans hh,zhn hr fun a e _ ⟨hk,hc⟩=>⟨hk,hc.step S⟩⟩;rcases S.sub _ hf with h|h
 ·exact hF h
 ·omega
theorem MapAt.step {F F':Nat→Prop} {w w':World} (S:Step F F' w w'):∀{t:Ty} {x:t.den} {v:Value},MapAt F w t x v→MapAt F' w' t x v
 | .bool,_,_,h| .int _,_,_,h| .str,_,_,h| .fn,_,_,h| .pair _ _,_,_,h=>by unfold MapAt at h;exact h.elim
 | .slice _ .bool,_,_,h| .slice _ (.int _),_,_,h| .slice _ .str,_,_,h| .slice _ .fn,_,_,h| .slice _ (.slice _ _),_,_,h=>by unfold MapAt at h;exact h.elim
 | .slice _ (.pair .bool _),_,_,h| .slice _ (.pair .str _),_,_,h| .slice _ (.pair .fn _),_,_,h| .slice _ (.pair (.slice _ _) _),_,_,h| .slice _ (.pair (.pair _ _) _),_,_,h=>by unfold MapAt at h;exact h.elim
 | .slice _ (.pair (.int k) _),_,_,h=>by
   cases k with
   |i64=>exact MapAt.yzs S h
   |_=>unfold MapAt at h;exact h.elim
theorem At.step {F F':Nat→Prop} {w w':World} (S:Step F F' w w') {t:Ty} {x:t.den} {v:Value} (h:At F w t x v):At F' w' t x v:=by
 rcases h with h|h
 rotate_left
 ·exact .inr (h.step S)
 obtain ⟨hm,a,cs,rfl,hF,hc,hcell⟩:=h;have hlt:a.block<w.heap.size:=by
  have hl:=hc.length;have hp:=Ty.zpw t;have:=World.block_lt_of_cell? w _ (hcell 0 (cs[0]'(by omega)) (by simp));have hb:(a.add 0).block=a.block:=by simp [Addr.add]
  rw [hb] at this;exact this
 refine .inl ⟨hm,a,cs,rfl,fun hf=> ?_,hc.step S,fun j u hj=> ?_⟩
 ·rcases S.sub _ hf with h|h
  ·exact hF h
  ·omega
 ·have hb:(a.add j).block=a.block:=by unfold Addr.add;split<;>rfl
  rw [←hcell j u hj];exact World.cell?_of_block (by rw [hb];exact S.keep _ hF hlt)
theorem RCap.step {F F':Nat→Prop} {w w':World} (S:Step F F' w w') {c:Cap} {v:Value} (h:RCap F w c v):RCap F' w' c v:=by
 unfold RCap at*;cases hp:c.ptr with
 |true=>simp only [hp] at h ⊢;exact At.step S h
 |false=>simp only [hp] at h ⊢;exact Cl.step S h
theorem RFn.step {F F':Nat→Prop} {w w':World} (S:Step F F' w w') {f:Nat} {caps:List Cap} {v:Value} (h:RFn F w f caps v):RFn F' w' f caps v:=by obtain ⟨vs,rfl,h⟩:=h;exact ⟨vs,rfl,zhn h fun a b _ hr=>hr.step S⟩
theorem OwnAt.step {F F':Nat→Prop} {w w':World} (S:Step F F' w w') {e:TypeId} {t:Ty} {xs:List t.den} {g l:Nat} {v:Value} (hg:w'.heap[g]? =w.heap[g]?) (h:OwnAt F w e t xs g l v):OwnAt F' w' e t xs g l v:=by obtain ⟨hl,cap,cur,rfl,hh,h1,h2,h3,h4⟩:=h;refine ⟨hl,cap,cur,rfl,hg.trans hh,h1,h2,h3,fun i x hi=> ?_⟩;obtain ⟨ds,hd,hc⟩:=h4 i x hi;exact ⟨ds,hd.step S,hc⟩
theorem RC.step {F F':Nat→Prop} {A A':Fr} {w w':World} (S:Step F F' w w') {c:PC} {v:Value} (hs:yrk A A' w w' c) (h:RC F A w c v):RC F' A' w' c v:=by
 cases c with
 |slice e t xs g=>
  cases g with
  |no=>exact Cl.step S h
  |nil=>exact h
  |exact=>exact ⟨Cl.step S h.1,h.2⟩
  |own n=>
   rcases h with h|⟨g,l,ht,h⟩
   ·exact .inl ⟨hs.1 h.1,h.2⟩
   ·exact .inr ⟨g,l,(hs.2 g l ht).1,h.step S (hs.2 g l ht).2⟩
 |elem t x=>exact At.step S h
 |clo f caps=>exact RFn.step S h
 |fnv q=>exact RFn.step S h
 |box d o=>obtain ⟨b,hb,rfl⟩:=h;exact ⟨b,hs b hb,rfl⟩
 |elemT u n i o=>obtain ⟨b,l,hb,h1,h2,rfl⟩:=h;exact ⟨b,l,hs b l hb,h1,h2,rfl⟩
 |pinp b u=>
  obtain ⟨bo,hb,rfl,hF,hc⟩:=h;have hlt:=World.block_lt_of_cell? w _ hc;refine ⟨bo,hs bo hb,rfl,fun hf=> ?_,?_⟩
  ·rcases S.sub _ hf with h|h
   ·exact hF h
   ·exact absurd hlt (Nat.not_lt.2 h)
  ·rw [←hc];exact World.cell?_of_block (S.keep _ hF hlt)
 |pin b u=>
  obtain ⟨bo,hb,rfl,hF,hc⟩:=h;have hlt:=World.block_lt_of_cell? w _ hc;refine ⟨bo,hs bo hb,rfl,fun hf=> ?_,?_⟩
  ·rcases S.sub _ hf with h|h
   ·exact hF h
   ·exact absurd hlt (Nat.not_lt.2 h)
  ·rw [←hc];exact World.cell?_of_block (S.keep _ hF hlt)
 |_=>exact h
theorem RCs.step {F F':Nat→Prop} {A A':Fr} {w w':World} (S:Step F F' w w') {cs:List PC} {vs:List Value} (hs:∀c∈cs,yrk A A' w w' c) (h:RCs F A w cs vs):RCs F' A' w' cs vs:=
 zhn h fun a _ ha hr=>hr.step S (hs a ha)
def SV.all (p:PC→Prop) (s:SV):Prop:=∀c∈s.cells,p c
def PV.all (p:PC→Prop):PV→Prop
 | .sv s=>s.all p
 | .tup l=>∀s∈l,s.all p
 |_=>True
theorem RS.step {F F':Nat→Prop} {A A':Fr} {w w':World} (S:Step F F' w w') {s:SV} {v:Value} (hs:s.all (yrk A A' w w')) (h:RS F A w s v):RS F' A' w' s v:=by
 cases s with
 |one c=>exact RC.step S (hs c (List.mem_singleton.2 rfl)) h
 |agg cs=>obtain ⟨vs,rfl,h⟩:=h;exact ⟨vs,rfl,h.step S hs⟩
theorem RP.step {F F':Nat→Prop} {A A':Fr} {w w':World} (S:Step F F' w w') {p:PV} {v:Value} (hs:p.all (yrk A A' w w')) (h:RP F A w p v):RP F' A' w' p v:=by
 cases p with
 |undef=>trivial
 |void=>exact h
 |sv s=>exact RS.step S hs h
 |tup l=>obtain ⟨vs,rfl,h⟩:=h;exact ⟨vs,rfl,zhn h fun a _ ha hr=>hr.step S (hs a ha)⟩
theorem RCs.append {F:Nat→Prop} {A:Fr} {w:World} {a b:List PC} {x y:List Value} (h:RCs F A w a x) (k:RCs F A w b y):RCs F A w (a++b) (x++y):=by
 induction h with
 |nil=>exact k
 |cons h0 _ ih=>exact .cons h0 ih
theorem Cl.toPC {F:Nat→Prop} {A:Fr} {w:World}:∀{t:Ty} {x:t.den} {cs:List Value},Cl F w t x cs→RCs F A w (t.toPC x) cs
 | .bool,_,_,h=>by rw [Cl] at h;subst h;exact .cons rfl .nil
 | .int _,_,_,h=>by rw [Cl] at h;subst h;exact .cons rfl .nil
 | .str,_,_,h=>by rw [Cl] at h;subst h;exact .cons rfl .nil
 | .fn,_,_,h=>by rw [Cl] at h;subst h;exact .cons ⟨[],rfl,.nil⟩ .nil
 | .slice e t,xs,cs,h=>by
   have hl:=Cl.length h
   match cs,hl with
   |[v],_=>exact .cons h .nil
 | .pair a b,x,_,h=>by rw [Cl] at h;obtain ⟨c1,c2,rfl,h1,h2⟩:=h;exact (Cl.toPC h1).append (Cl.toPC h2)
def Plain (F:Nat→Prop) (A:Fr) (w:World):PC→Prop
 | .slice _ _ _ (.own n)=>∀g l,A.tg n=some (g,l)→¬F g∧g<w.heap.size
 |_=>True
theorem OwnAt.plain {F:Nat→Prop} {w:World} {e:TypeId} {t:Ty} {xs:List t.den} {g l:Nat} {v:Value} (h:OwnAt F w e t xs g l v) (hF:¬F g):Cl F w (.slice e t) xs [v]:=by
 obtain ⟨_,cap,cur,rfl,hh,h1,h2,h3,h4⟩:=h;rw [Cl];refine ⟨_,_,rfl,h1,.inr ⟨_,rfl,hF,fun i x hi=> ?_⟩⟩;obtain ⟨ds,hd,hc⟩:=h4 i x hi;refine ⟨ds,hd,fun j u hj=> ?_⟩;have hadd:(⟨g,0,none⟩:Addr).add (i*t.sz+j)=⟨g,i*t.sz+j,none⟩:=by unfold Addr.add;split<;>simp_all
 rw [hadd];simp only [World.cell?,hh]
 simpa using hc j u hj
theorem RC.qqw {F:Nat→Prop} {A:Fr} {w:World} {e:TypeId} {t:Ty} {xs:List t.den} {g:Tag} {v:Value} (hp:Plain F A w (.slice e t xs g)) (h:RC F A w (.slice e t xs g) v):Cl F w (.slice e t) xs [v]:=by
 cases g with
 |no=>exact h
 |nil=>obtain ⟨rfl,a,rfl⟩:=h;rw [Cl];exact ⟨a,0,rfl,Nat.le_refl _,.inl rfl⟩
 |exact=>exact h.1
 |own n=>
  rcases h with ⟨_,rfl,a,rfl⟩|⟨g,l,ht,h⟩
  ·rw [Cl];exact ⟨a,0,rfl,Nat.le_refl _,.inl rfl⟩
  ·exact h.plain (hp g l ht).1
theorem zhe {α β:Type} {R:α→β→Prop} {l:List α} {m:List β} (h:All2 R l m) (n:Nat):All2 R (l.take n) (m.take n):=by
 induction h generalizing n with
 |nil=>simp;exact .nil
 |cons h0 _ ih=>cases n with
  |zero=>simp;exact .nil
  |succ n=>exact .cons h0 (ih n)
theorem zhf {α β:Type} {R:α→β→Prop} {l:List α} {m:List β} (h:All2 R l m) (n:Nat):All2 R (l.drop n) (m.drop n):=by
 induction h generalizing n with
 |nil=>simp;exact .nil
 |cons h0 ht ih=>cases n with
  |zero=>exact .cons h0 ht
  |succ n=>exact ih n
theorem qui {cs:List PC} {b:Bool} (h:yxm cs=some b):cs=[.bool b]:=by
 unfold yxm at h;split at h
 ·cases h;rfl
 ·cases h
theorem ycp {k:IntKind} {cs:List PC} {n:Int} (h:intOf k cs=some n):cs=[.int k n]:=by
 unfold intOf at h;split at h
 ·split at h
  ·rename_i hk;cases h;rw [hk]
  ·cases h
 ·cases h
theorem qzr {cs:List PC} {b:ByteArray} (h:strOf cs=some b):cs=[.str b]:=by
 unfold strOf at h;split at h
 ·cases h;rfl
 ·cases h
theorem ylf {cs:List PC} {b:Nat} (h:fnOf cs=some b):cs=[.clo b []]:=by
 unfold fnOf at h;split at h
 ·cases h;rfl
 ·cases h
theorem ync {e:TypeId} {t:Ty} {cs:List PC} {xs:List t.den} (h:rowOf e t cs=some xs):(cs=[.nilS]∧xs=[])∨∃g,cs=[.slice e t xs g]:=by
 unfold rowOf at h;split at h
 ·cases h;exact .inl ⟨rfl,rfl⟩
 ·split at h
  ·rename_i hk;obtain ⟨rfl,rfl⟩:=hk;cases h;exact .inr ⟨_,rfl⟩
  ·cases h
 ·cases h
theorem RCs.ofPC {F:Nat→Prop} {A:Fr} {w:World}:∀{t:Ty} {x:t.den} {cs:List PC} {vs:List Value},t.ofPC cs=some x→(∀c∈cs,Plain F A w c)→RCs F A w cs vs→Cl F w t x vs
 | .bool,x,cs,vs,ho,hp,h=>by obtain rfl:=qui ho;cases h with|cons h0 ht=>cases ht;cases h0;rw [Cl]
 | .int k,x,cs,vs,ho,hp,h=>by obtain rfl:=ycp ho;cases h with|cons h0 ht=>cases ht;cases h0;rw [Cl]
 | .str,x,cs,vs,ho,hp,h=>by obtain rfl:=qzr ho;cases h with|cons h0 ht=>cases ht;cases h0;rw [Cl]
 | .fn,x,cs,vs,ho,hp,h=>by
   obtain rfl:=ylf ho;cases h with
   |cons h0 ht=>cases ht;obtain ⟨us,rfl,hu⟩:=h0;cases hu;rw [Cl]
 | .slice e t,xs,cs,vs,ho,hp,h=>by
   rcases ync ho with ⟨rfl,rfl⟩|⟨g,rfl⟩
   ·cases h with|cons h0 ht=>cases ht;cases h0;rw [Cl];exact ⟨none,0,rfl,Nat.le_refl _,.inl rfl⟩
   ·cases h with|cons h0 ht=>cases ht;exact RC.qqw (hp _ (List.mem_singleton.2 rfl)) h0
 | .pair a b,x,cs,vs,ho,hp,h=>by
   unfold Ty.ofPC at ho;split at ho
   ·rename_i x1 y1 h1 h2;cases ho;rw [Cl];have c1:=RCs.ofPC h1 (fun c hc=>hp c (List.mem_of_mem_take hc)) (zhe h a.sz);have c2:=RCs.ofPC h2 (fun c hc=>hp c (List.mem_of_mem_drop hc)) (zhf h a.sz);exact ⟨vs.take a.sz,vs.drop a.sz,(List.take_append_drop _ _).symm,c1,c2⟩
   ·cases ho
structure Kept (G:Nat→Prop) (w w':World):Prop where
 os:w'.os=w.os
 tape:w'.tape=w.tape
 output:w'.output=w.output
 size:w.heap.size≤w'.heap.size
 block:∀k,k<w.heap.size→¬G k→w'.heap[k]? =w.heap[k]?
 drawn:w.drawn≤w'.drawn
theorem Kept.refl (G:Nat→Prop) (w:World):Kept G w w:=⟨rfl,rfl,rfl,Nat.le_refl _,fun _ _ _=>rfl,Nat.le_refl _⟩
theorem Kept.trans {G G':Nat→Prop} {a b c:World} (h:Kept G a b) (k:Kept G' b c) (hG:∀x,G' x→G x∨a.heap.size≤x):Kept G a c:=
 ⟨k.os.trans h.os,k.tape.trans h.tape,k.output.trans h.output,Nat.le_trans h.size k.size,fun i hi hg=>(k.block i (Nat.lt_of_lt_of_le hi h.size) fun hx=>by rcases hG i hx with h1|h1;exact hg h1;omega).trans (h.block i hi hg),Nat.le_trans h.drawn k.drawn⟩
def zfe (E:Env) (F:Nat→Prop) (w:World):Prop:=
 (∀g e u n,E.glob g=some (e,u,n)→(E.yqu g u).length=n∧Cl F w (.slice e u) (E.yqu g u) [.slice (some ⟨g,0,none⟩) n n])∧
 ∀g cs,E.tab g=some cs→¬F g∧∃t z,w.heap[g]? =some (.cells cs.toArray t z)
theorem zfe.step {E:Env} {F F':Nat→Prop} {w w':World} (h:zfe E F w) (S:Step F F' w w'):zfe E F' w':=
 ⟨fun g e u n hg=>⟨(h.1 g e u n hg).1,Cl.step S (h.1 g e u n hg).2⟩,fun g cs hg=>by
  obtain ⟨h1,t,z,h2⟩:=h.2 g cs hg;have hlt:g<w.heap.size:=(Array.getElem?_eq_some_iff.1 h2).1;refine ⟨fun hF=> ?_,t,z,(S.keep g h1 hlt).trans h2⟩;rcases S.sub g hF with h3|h3
  ·exact h1 h3
  ·omega⟩
structure Ctx where
 P:Program
 E:Env
 W:World
 G:Nat→Prop
 F0:Nat→Prop
 n:Nat
def Ctx.Mine (X:Ctx) (b:Nat):Prop:=X.W.heap.size≤b∨X.G b
structure Good (X:Ctx) (A:Fr) (w:World):Prop where
 bxm:∀d b,A.bx d=some b→X.Mine b∧b<w.heap.size
 tgm:∀n b l,A.tg n=some (b,l)→X.Mine b∧b<w.heap.size
 bxi:∀d d' b,A.bx d=some b→A.bx d'=some b→d=d'
 tgi:∀n n' b l l',A.tg n=some (b,l)→A.tg n'=some (b,l')→n=n'
 bt:∀d n b l,A.bx d=some b→A.tg n=some (b,l)→False
 f0:∀b,X.F0 b→b<X.W.heap.size∧¬X.G b
theorem Good.f0m {X:Ctx} {A:Fr} {w:World} (h:Good X A w) {b:Nat} (hm:X.Mine b):¬X.F0 b:=fun hf=>by
 obtain ⟨h1,h2⟩:=h.f0 b hf;rcases hm with h3|h3
 ·omega
 ·exact h2 h3
abbrev Ctx.F (X:Ctx) (A:Fr):Nat→Prop:=A.F X.F0
structure Inv (X:Ctx) (A:Fr) (σ:St) (tm:Array Value) (w:World):Prop where
 sz:tm.size=X.n
 kept:Kept X.G X.W w
 glob:zfe X.E (X.F A) w
 slot:∀i,RP (X.F A) A w (σ.get i) (tm.getD i undef)
 box:∀d tid cs,getB σ.b d=some (tid,cs)→∃b vs,A.bx d=some b∧w.heap[b]? =some (.cells vs tid (0,0))∧RCs (X.F A) A w cs vs.toList
 good:Good X A w
 ent:∀p∈σ.s,∃v,RP (X.F A) A w p.2 v
theorem xcl (f:PC→PC) (l:List (Nat×PV)) (i:Nat):getS (l.map fun p=>(p.1,p.2.map f)) i=(getS l i).map f:=by
 induction l with
 |nil=>rfl
 |cons p l ih=>obtain ⟨j,v⟩:=p;simp only [List.map_cons,getS,ih];cases Nat.beq j i<;>rfl
theorem qpg (f:PC→PC) (l:List (Nat×(TypeId×List PC))) (i:Nat):
 getB (l.map fun p=>(p.1,(p.2.1,p.2.2.map f))) i=(getB l i).map fun q=>(q.1,q.2.map f):=by
 induction l with
 |nil=>rfl
 |cons p l ih=>obtain ⟨j,v⟩:=p;simp only [List.map_cons,getB,ih];cases Nat.beq j i<;>rfl
theorem St.yld (σ:St) (f:PC→PC) (i:Nat):(σ.map f).get i=(σ.get i).map f:=xcl f σ.s i
theorem zqj (l:List (Nat×(TypeId×List PC))) (d i:Nat):getB (delB l d) i=if i=d then none else getB l i:=by
 induction l with
 |nil=>simp [delB,getB]
 |cons p l ih=>
  obtain ⟨j,v⟩:=p;simp only [delB,getB];by_cases h:j=d
  ·have:Nat.beq j d=true:=by rw [h];exact Nat.beq_refl d
   rw [this];simp only [cond_true,ih];by_cases hi:i=d
   ·simp [hi]
   ·have:Nat.beq j i=false:=by cases hb:Nat.beq j i;rfl;exact absurd ((Nat.eq_of_beq_eq_true hb).symm.trans h) hi |> fun h=>h
    simp [hi,this]
  ·have:Nat.beq j d=false:=by cases hb:Nat.beq j d;rfl;exact absurd (Nat.eq_of_beq_eq_true hb) h
   rw [this];simp only [cond_false,getB,ih];cases hb:Nat.beq j i with
   |true=>have:=Nat.eq_of_beq_eq_true hb;subst this;simp [h]
   |false=>simp
theorem yoa {tm:Array Value} {d:Nat} (v:Value) (hd:d<tm.size) (i:Nat):(tm.setIfInBounds d v).getD i undef=if i=d then v else tm.getD i undef:=by
 simp only [Array.getD_eq_getD_getElem?,Array.getElem?_setIfInBounds];by_cases h:d=i
 ·subst h;simp [hd]
 ·have:¬i=d:=fun e=>h e.symm
  simp [h,this]
theorem St.get_put (σ:St) (d:Nat) (v:PV) (i:Nat):(σ.put (some d) v).get i=if i=d then v else σ.get i:=by
 simp only [St.put,St.get,getS];by_cases h:i=d
 ·subst h;rw [show Nat.beq i i=true from Nat.beq_refl i];simp
 ·have:Nat.beq d i=false:=by cases hb:Nat.beq d i;rfl;exact absurd (Nat.eq_of_beq_eq_true hb).symm h
  simp [this,h]
theorem Inv.put {X:Ctx} {A:Fr} {σ:St} {a:Act} {w:World} (h:Inv X A σ a.tmps w) {dst:Option Nat} (hd:∀d,dst=some d→d<X.n) {p:PV} {v:Value} (hp:dst≠none→RP (X.F A) A w p v):
 Inv X A (σ.put dst p) (a.put dst v).tmps w:=by
 cases dst with
 |none=>exact h
 |some d=>
  have hlt:d<a.tmps.size:=by rw [h.sz];exact hd d rfl
  refine ⟨by simp [Act.put,h.sz],h.kept,h.glob,fun i=> ?_,h.box,h.good,fun q hq=> ?_⟩
  case refine_2=>
   rcases List.mem_cons.1 hq with rfl|hq
   ·exact ⟨v,hp (by simp)⟩
   ·exact h.ent q hq
  rw [St.get_put];show RP _ _ _ _ ((a.tmps.setIfInBounds d v).getD i undef);rw [yoa v hlt];by_cases hi:i=d
  ·simp only [hi,if_true];exact hp (by simp)
  ·simp only [hi,if_false];exact h.slot i
theorem RS.map {F F':Nat→Prop} {A A':Fr} {w w':World} {f:PC→PC} (hf:∀c v,RC F A w c v→RC F' A' w' (f c) v) {s:SV} {v:Value} (h:RS F A w s v):RS F' A' w' (s.map f) v:=by
 cases s with
 |one c=>exact hf c v h
 |agg cs=>
  obtain ⟨vs,rfl,h⟩:=h;refine ⟨vs,rfl,?_⟩;show All2 _ (cs.map f) vs
  induction h with
  |nil=>exact .nil
  |cons h0 _ ih=>exact .cons (hf _ _ h0) ih
theorem RCs.map {F F':Nat→Prop} {A A':Fr} {w w':World} {f:PC→PC} (hf:∀c v,RC F A w c v→RC F' A' w' (f c) v) {cs:List PC} {vs:List Value} (h:RCs F A w cs vs):RCs F' A' w' (cs.map f) vs:=by
 induction h with
 |nil=>exact .nil
 |cons h0 _ ih=>exact .cons (hf _ _ h0) ih
theorem RP.map {F F':Nat→Prop} {A A':Fr} {w w':World} {f:PC→PC} (hf:∀c v,RC F A w c v→RC F' A' w' (f c) v) {p:PV} {v:Value} (h:RP F A w p v):RP F' A' w' (p.map f) v:=by
 cases p with
 |undef=>trivial
 |void=>exact h
 |sv s=>exact RS.map hf h
 |tup l=>
  obtain ⟨vs,rfl,h⟩:=h;refine ⟨vs,rfl,?_⟩;show All2 _ (l.map _) vs
  induction h with
  |nil=>exact .nil
  |cons h0 _ ih=>exact .cons (RS.map hf h0) ih
theorem Inv.map {X:Ctx} {A A':Fr} {σ:St} {tm:Array Value} {w w':World} {f:PC→PC} (h:Inv X A σ tm w)
 (hf:∀c v,RC (X.F A) A w c v→RC (X.F A') A' w' (f c) v)
 (hk:Kept X.G X.W w') (S:Step (X.F A) (X.F A') w w') (hg:Good X A' w')
 (hb:∀d tid cs b vs,getB σ.b d=some (tid,cs)→A.bx d=some b→w.heap[b]? =some (.cells vs tid (0,0))→A'.bx d=some b∧w'.heap[b]? =some (.cells vs tid (0,0))):
 Inv X A' (σ.map f) tm w':=by
 refine ⟨h.sz,hk,h.glob.step S,fun i=> ?_,fun d tid cs hd=> ?_,hg,fun q hq=> ?_⟩
 case refine_3=>obtain ⟨q',hq',rfl⟩:=List.mem_map.1 hq;obtain ⟨v,hv⟩:=h.ent q' hq';exact ⟨v,RP.map hf hv⟩
 ·rw [St.yld];exact RP.map hf (h.slot i)
 ·simp only [St.map,qpg] at hd;cases hq:getB σ.b d with
  |none=>simp [hq] at hd
  |some q=>obtain ⟨tid',cs'⟩:=q;simp only [hq,Option.map_some,Option.some.injEq,Prod.mk.injEq] at hd;obtain ⟨rfl,rfl⟩:=hd;obtain ⟨b,vs,h1,h2,h3⟩:=h.box d tid' cs' hq;obtain ⟨h4,h5⟩:=hb d tid' cs' b vs hq h1 h2;exact ⟨b,vs,h4,h5,RCs.map hf h3⟩
def Fr.drop (A:Fr) (l:List Nat):Fr:={A with tg:=fun n=>if mem l n then none else A.tg n}
theorem mem_iff {l:List Nat} {n:Nat}:mem l n=true↔n∈l:=by
 unfold mem;rw [List.any_eq_true];constructor
 ·rintro ⟨x,hx,h⟩;rw [Nat.eq_of_beq_eq_true h];exact hx
 ·intro h;exact ⟨n,h,Nat.beq_refl n⟩
theorem Fr.yww {A:Fr} {l:List Nat} {F0:Nat→Prop} {b:Nat} (h:(A.drop l).F F0 b):A.F F0 b:=by
 rcases h with h|h|⟨n,k,h⟩
 ·exact .inl h
 ·exact .inr (.inl h)
 ·refine .inr (.inr ⟨n,k,?_⟩);simp only [Fr.drop] at h;split at h
  ·cases h
  ·exact h
theorem Good.drop {X:Ctx} {A:Fr} {w:World} (h:Good X A w) (l:List Nat):Good X (A.drop l) w:=by
 have key:∀n b k,(A.drop l).tg n=some (b,k)→A.tg n=some (b,k):=fun n b k hn=>by
  simp only [Fr.drop] at hn;split at hn
  ·cases hn
  ·exact hn
 exact ⟨h.bxm,fun n b k hn=>h.tgm n b k (key n b k hn),h.bxi,fun n n' b k k' h1 h2=>h.tgi n n' b k k' (key _ _ _ h1) (key _ _ _ h2),
  fun d n b k h1 h2=>h.bt d n b k h1 (key _ _ _ h2),h.f0⟩
theorem Step.drop (A:Fr) (l:List Nat) (F0:Nat→Prop) (w:World):Step (A.F F0) ((A.drop l).F F0) w w:=
 ⟨fun _ _ _=>rfl,fun _ h=>.inl (Fr.yww h)⟩
theorem Good.notF {X:Ctx} {A:Fr} {w:World} (h:Good X A w) {l:List Nat} {n b k:Nat} (hn:A.tg n=some (b,k)) (hl:n∈l):¬X.F (A.drop l) b:=by
 rintro (hf|⟨d,hd⟩|⟨n',k',hn'⟩)
 ·exact h.f0m (h.tgm n b k hn).1 hf
 ·exact h.bt d n b k hd hn
 ·simp only [Fr.drop] at hn';split at hn'
  ·cases hn'
  ·rename_i hm;have:=h.tgi n n' b k k' hn hn';subst this;exact hm (mem_iff.2 hl)
theorem Inv.release {X:Ctx} {A:Fr} {σ:St} {tm:Array Value} {w:World} (h:Inv X A σ tm w) (l:List Nat):∃A',Inv X A' (σ.release l) tm w∧(A'=A∨A'=A.drop l)∧((l=[]∧A'=A)∨A'=A.drop l):=by
 cases l with
 |nil=>exact ⟨A,h,.inl rfl,.inl ⟨rfl,rfl⟩⟩
 |cons x l=>
  refine ⟨A.drop (x::l),?_,.inr rfl,.inr rfl⟩;refine h.map (fun c v hc=> ?_) h.kept (Step.drop _ _ _ _) (h.good.drop _) (fun d tid cs b vs _ hb hw=>⟨hb,hw⟩);have S:=Step.drop A (x::l) X.F0 w;cases c with
  |slice e t xs g=>
   cases g with
   |no=>exact RC.step S trivial hc
   |nil=>exact RC.step S trivial hc
   |exact=>exact RC.step S trivial hc
   |own n=>
    unfold PC.zcs;by_cases hm:mem (x::l) n=true
    ·simp only [hm,cond_true];rcases hc with ⟨_,rfl,a,rfl⟩|⟨g,k,hg,ho⟩
     ·show Cl _ _ _ _ _;rw [Cl];exact ⟨a,0,rfl,Nat.le_refl _,.inl rfl⟩
     ·exact (ho.step S rfl).plain (h.good.notF hg (mem_iff.1 hm))
    ·have hm':mem (x::l) n=false:=by simpa using hm
     simp only [hm',cond_false];exact RC.step S ⟨fun hn=>by simpa [Fr.drop,hm'] using hn,fun g k hg=>⟨by simpa [Fr.drop,hm'] using hg,rfl⟩⟩ hc
  |elemT u n i o=>
   unfold PC.zcs;by_cases hm:mem (x::l) n=true
   ·simp only [hm,cond_true];exact RC.one hc
   ·have hm':mem (x::l) n=false:=by simpa using hm
    simp only [hm',cond_false];exact RC.step S (fun g k hg=>by simpa [Fr.drop,hm'] using hg) hc
  |box d o=>exact RC.step S (fun _ h=>h) hc
  |pin _ _=>exact RC.step S (fun _ h=>h) hc
  |pinp _ _=>exact RC.step S (fun _ h=>h) hc
  |_=>exact RC.step S trivial hc
theorem Inv.kill {X:Ctx} {A:Fr} {σ:St} {tm:Array Value} {w:World} (h:Inv X A σ tm w) (l:List Nat):∃A',Inv X A' (σ.kill l) tm w∧((l=[]∧A'=A)∨A'=A.drop l):=by
 cases l with
 |nil=>exact ⟨A,h,.inl ⟨rfl,rfl⟩⟩
 |cons x l=>
  refine ⟨A.drop (x::l),?_,.inr rfl⟩;refine h.map (fun c v hc=> ?_) h.kept (Step.drop _ _ _ _) (h.good.drop _) (fun d tid cs b vs _ hb hw=>⟨hb,hw⟩);have S:=Step.drop A (x::l) X.F0 w;cases c with
  |slice e t xs g=>
   cases g with
   |no=>exact RC.step S trivial hc
   |nil=>exact RC.step S trivial hc
   |exact=>exact RC.step S trivial hc
   |own n=>
    unfold PC.zcs;by_cases hm:mem (x::l) n=true
    ·simp only [hm,cond_true];exact RC.one hc
    ·have hm':mem (x::l) n=false:=by simpa using hm
     simp only [hm',cond_false];exact RC.step S ⟨fun hn=>by simpa [Fr.drop,hm'] using hn,fun g k hg=>⟨by simpa [Fr.drop,hm'] using hg,rfl⟩⟩ hc
  |elemT u n i o=>
   unfold PC.zcs;by_cases hm:mem (x::l) n=true
   ·simp only [hm,cond_true];exact RC.one hc
   ·have hm':mem (x::l) n=false:=by simpa using hm
    simp only [hm',cond_false];exact RC.step S (fun g k hg=>by simpa [Fr.drop,hm'] using hg) hc
  |box d o=>exact RC.step S (fun _ h=>h) hc
  |pin _ _=>exact RC.step S (fun _ h=>h) hc
  |pinp _ _=>exact RC.step S (fun _ h=>h) hc
  |_=>exact RC.step S trivial hc
structure Ext (A A':Fr) (w w':World):Prop where
 bx:∀d b,A.bx d=some b→A'.bx d=some b∧w'.heap[b]? =w.heap[b]?
 tg:∀n g l,A.tg n=some (g,l)→A'.tg n=some (g,l)∧w'.heap[g]? =w.heap[g]?
 tn:∀n,A.tg n=none→A'.tg n=none
theorem Ext.stays {A A':Fr} {w w':World} (h:Ext A A' w w') (c:PC):yrk A A' w w' c:=by
 cases c with
 |slice e t xs g=>cases g with
  |own n=>exact ⟨h.tn n,fun g l hg=>h.tg n g l hg⟩
  |_=>trivial
 |elemT u n i o=>exact fun g l hg=>(h.tg n g l hg).1
 |box d o=>exact fun b hb=>(h.bx d b hb).1
 |pin _ _=>exact fun b hb=>(h.bx 3 b hb).1
 |pinp _ _=>exact fun b hb=>(h.bx 3 b hb).1
 |_=>trivial
theorem Ext.refl (A:Fr) (w:World):Ext A A w w:=⟨fun _ _ h=>⟨h,rfl⟩,fun _ _ _ h=>⟨h,rfl⟩,fun _ h=>h⟩
theorem Inv.adv {X:Ctx} {A A':Fr} {σ:St} {tm:Array Value} {w w':World} (h:Inv X A σ tm w) (S:Step (X.F A) (X.F A') w w') (he:Ext A A' w w')
 (hk:Kept X.G X.W w') (hg:Good X A' w'):Inv X A' σ tm w':=
 ⟨h.sz,hk,h.glob.step S,fun i=>RP.step S (by
  cases hq:σ.get i with
  |sv s=>exact fun c _=>he.stays c
  |tup l=>exact fun s _ c _=>he.stays c
  |_=>trivial) (h.slot i),
  fun d tid cs hd=>by obtain ⟨b,vs,h1,h2,h3⟩:=h.box d tid cs hd;exact ⟨b,vs,(he.bx d b h1).1,(he.bx d b h1).2.trans h2,h3.step S fun c _=>he.stays c⟩,hg,
  fun q hq=>by
   obtain ⟨v,hv⟩:=h.ent q hq;refine ⟨v,RP.step S ?_ hv⟩;cases q.2 with
   |sv s=>exact fun c _=>he.stays c
   |tup l=>exact fun s _ c _=>he.stays c
   |_=>trivial⟩
theorem zbt (w:World) (o:Obj) (k:Nat) (h:k<w.heap.size):(w.alloc o).heap[k]? =w.heap[k]? :=by show (w.heap.push o)[k]? =_;rw [Array.getElem?_push,if_neg (by omega)]
theorem zkz (w:World) (o:Obj):(w.alloc o).heap[w.heap.size]? =some o:=by show (w.heap.push o)[w.heap.size]? =_;rw [Array.getElem?_push,if_pos rfl]
theorem Kept.alloc {G:Nat→Prop} {a w:World} (h:Kept G a w) (o:Obj):Kept G a (w.alloc o):=
 ⟨h.os,h.tape,h.output,by rw [World.size_alloc];exact Nat.le_succ_of_le h.size,fun k hk hg=>(zbt w o k (Nat.lt_of_lt_of_le hk h.size)).trans (h.block k hk hg),h.drawn⟩
theorem Kept.drew {G:Nat→Prop} {a w:World} (h:Kept G a w):Kept G a w.drew:=⟨h.os,h.tape,h.output,h.size,h.block,Nat.le_succ_of_le h.drawn⟩
theorem Inv.alloc {X:Ctx} {A:Fr} {σ:St} {tm:Array Value} {w:World} (h:Inv X A σ tm w) (o:Obj):Inv X A σ tm (w.alloc o):=by
 have hlt:∀b,X.F A b→b<w.heap.size∨X.F0 b:=fun b hb=>by
  rcases hb with hb|⟨d,hb⟩|⟨n,l,hb⟩
  ·exact .inr hb
  ·exact .inl (h.good.bxm d b hb).2
  ·exact .inl (h.good.tgm n b l hb).2
 refine h.adv ⟨fun b _ hb=>zbt w o b hb,fun b hb=>.inl hb⟩ ⟨fun d b hb=>⟨hb,zbt w o b (h.good.bxm d b hb).2⟩,fun n g l hg=>⟨hg,zbt w o g (h.good.tgm n g l hg).2⟩,fun _ h=>h⟩ (h.kept.alloc o) ?_;refine ⟨fun d b hb=> ?_,fun n b l hb=> ?_,h.good.bxi,h.good.tgi,h.good.bt,h.good.f0⟩
 ·have:=h.good.bxm d b hb;exact ⟨this.1,by rw [World.size_alloc];omega⟩
 ·have:=h.good.tgm n b l hb;exact ⟨this.1,by rw [World.size_alloc];omega⟩
theorem Inv.drew {X:Ctx} {A:Fr} {σ:St} {tm:Array Value} {w:World} (h:Inv X A σ tm w):Inv X A σ tm w.drew:=
 h.adv ⟨fun _ _ _=>rfl,fun _ hb=>.inl hb⟩ ⟨fun _ _ hb=>⟨hb,rfl⟩,fun _ _ _ hg=>⟨hg,rfl⟩,fun _ h=>h⟩ h.kept.drew ⟨h.good.bxm,h.good.tgm,h.good.bxi,h.good.tgi,h.good.bt,h.good.f0⟩
def Fr.zgf (A:Fr) (d:Nat) (b:Option Nat):Fr:={A with bx:=fun i=>if i=d then b else A.bx i}
def Fr.qeg (A:Fr) (n:Nat) (b:Option (Nat×Nat)):Fr:={A with tg:=fun i=>if i=n then b else A.tg i}
theorem Inv.qkn {X:Ctx} {A:Fr} {σ:St} {tm:Array Value} {w:World} (h:Inv X A σ tm w) (d:Nat):
 Inv X (A.zgf d none) {s:=(σ.map (PC.qkn d)).s,b:=delB (σ.map (PC.qkn d)).b d} tm w∧
 ∀c v,RC (X.F A) A w c v→RC (X.F (A.zgf d none)) (A.zgf d none) w (PC.qkn d c) v:=by
 have hF:∀b,X.F (A.zgf d none) b→X.F A b:=fun b hb=>by
  rcases hb with hb|⟨i,hb⟩|hb
  ·exact .inl hb
  ·simp only [Fr.zgf] at hb;split at hb
   ·cases hb
   ·exact .inr (.inl ⟨i,hb⟩)
  ·exact .inr (.inr hb)
 have S:Step (X.F A) (X.F (A.zgf d none)) w w:=⟨fun _ _ _=>rfl,fun b hb=>.inl (hF b hb)⟩;have hc:∀c v,RC (X.F A) A w c v→RC (X.F (A.zgf d none)) (A.zgf d none) w (PC.qkn d c) v:=fun c v hc=>by
  cases c with
  |slice e t xs g=>cases g with
   |own n=>exact RC.step S ⟨fun h=>h,fun g k hg=>⟨hg,rfl⟩⟩ hc
   |_=>exact RC.step S trivial hc
  |elemT u n i o=>exact RC.step S (fun g k hg=>hg) hc
  |box d' o=>
   show RC _ _ _ (bif Nat.beq d' d then .dead else .box d' o) v;cases hb:Nat.beq d' d with
   |true=>exact RC.one hc
   |false=>
    show RC _ _ _ (.box d' o) v;have hne:d'≠d:=fun e=>by rw [e,Nat.beq_refl] at hb;cases hb
    exact RC.step S (fun b hb=>by simpa [Fr.zgf,hne] using hb) hc
  |pin br f=>
   show RC _ _ _ (bif Nat.beq 3 d then .dead else .pin br f) v;cases hb:Nat.beq 3 d with
   |true=>exact RC.one hc
   |false=>
    show RC _ _ _ (.pin br f) v;have hne:3≠d:=fun e=>by rw [←e] at hb;cases hb
    exact RC.step S (fun b hb=>by simpa [Fr.zgf,hne] using hb) hc
  |pinp br f=>
   show RC _ _ _ (bif Nat.beq 3 d then .dead else .pinp br f) v;cases hb:Nat.beq 3 d with
   |true=>exact RC.one hc
   |false=>
    show RC _ _ _ (.pinp br f) v;have hne:3≠d:=fun e=>by rw [←e] at hb;cases hb
    exact RC.step S (fun b hb=>by simpa [Fr.zgf,hne] using hb) hc
  |_=>exact RC.step S trivial hc
 refine ⟨⟨h.sz,h.kept,h.glob.step S,fun i=> ?_,fun d' tid cs hd=> ?_,?_,fun q hq=> ?_⟩,hc⟩
 case refine_4=>obtain ⟨q',hq',rfl⟩:=List.mem_map.1 hq;obtain ⟨v,hv⟩:=h.ent q' hq';exact ⟨v,RP.map hc hv⟩
 ·show RP _ _ _ (St.get (σ.map (PC.qkn d)) i) _;rw [St.yld];exact RP.map hc (h.slot i)
 ·rw [zqj] at hd;split at hd
  ·cases hd
  ·rename_i hne;simp only [St.map,qpg] at hd;cases hq:getB σ.b d' with
   |none=>simp [hq] at hd
   |some q=>obtain ⟨tid',cs'⟩:=q;simp only [hq,Option.map_some,Option.some.injEq,Prod.mk.injEq] at hd;obtain ⟨rfl,rfl⟩:=hd;obtain ⟨b,vs,h1,h2,h3⟩:=h.box d' tid' cs' hq;exact ⟨b,vs,by simpa [Fr.zgf,hne] using h1,h2,RCs.map hc h3⟩
 ·have key:∀i b,(A.zgf d none).bx i=some b→A.bx i=some b:=fun i b hb=>by
   simp only [Fr.zgf] at hb;split at hb
   ·cases hb
   ·exact hb
  exact ⟨fun i b hb=>h.good.bxm i b (key i b hb),h.good.tgm,fun i j b h1 h2=>h.good.bxi i j b (key _ _ h1) (key _ _ h2),h.good.tgi,fun i n b l h1 h2=>h.good.bt i n b l (key _ _ h1) h2,h.good.f0⟩
theorem Inv.qbz {X:Ctx} {A:Fr} {σ:St} {a:Act} {w:World} (h:Inv X A σ a.tmps w) {d:Nat} (hd:d<X.n) (tid:TypeId) {cs:List PC} {vs:Array Value} (hc:RCs (X.F A) A w cs vs.toList):
 ∃A',Inv X A' (σ.qbz d tid cs) (a.put (some d) (.pointer (some ⟨w.heap.size,0,none⟩))).tmps (w.alloc (.cells vs tid)):=by
 obtain ⟨h1,hmap⟩:=h.qkn d;have h2:=h1.alloc (.cells vs tid);refine ⟨A.zgf d (some w.heap.size),?_⟩;have hFeq:∀b,X.F (A.zgf d (some w.heap.size)) b→X.F (A.zgf d none) b∨b=w.heap.size:=fun b hb=>by
  rcases hb with hb|⟨i,hb⟩|hb
  ·exact .inl (.inl hb)
  ·simp only [Fr.zgf] at hb;split at hb
   ·cases hb;exact .inr rfl
   ·rename_i hne;exact .inl (.inr (.inl ⟨i,by simpa [Fr.zgf,hne] using hb⟩))
  ·exact .inl (.inr (.inr hb))
 have S:Step (X.F (A.zgf d none)) (X.F (A.zgf d (some w.heap.size))) w (w.alloc (.cells vs tid)):=
  ⟨fun b _ hb=>zbt w _ b hb,fun b hb=>(hFeq b hb).imp id fun e=>by omega⟩
 have he:Ext (A.zgf d none) (A.zgf d (some w.heap.size)) w (w.alloc (.cells vs tid)):=by
  refine ⟨fun i b hb=> ?_,fun n g l hg=>⟨hg,zbt w _ g (h.good.tgm n g l hg).2⟩,fun _ h=>h⟩;simp only [Fr.zgf] at hb;split at hb
  ·cases hb
  ·rename_i hne;exact ⟨by simpa [Fr.zgf,hne] using hb,zbt w _ b (h.good.bxm i b hb).2⟩
 have hsz:w.heap.size<(w.alloc (.cells vs tid)).heap.size:=by rw [World.size_alloc];omega
 have hg:Good X (A.zgf d (some w.heap.size)) (w.alloc (.cells vs tid)):=by
  have key:∀i b,(A.zgf d (some w.heap.size)).bx i=some b→(i=d∧b=w.heap.size)∨(i≠d∧A.bx i=some b):=fun i b hb=>by
   simp only [Fr.zgf] at hb;split at hb
   ·cases hb;exact .inl ⟨‹_›,rfl⟩
   ·exact .inr ⟨‹_›,hb⟩
  refine ⟨fun i b hb=> ?_,fun n b l hb=> ?_,fun i j b h1 h2=> ?_,h.good.tgi,fun i n b l h1 h2=> ?_,h.good.f0⟩
  ·rcases key i b hb with ⟨_,rfl⟩|⟨_,hb⟩
   ·exact ⟨.inl h.kept.size,hsz⟩
   ·have:=h.good.bxm i b hb;exact ⟨this.1,by omega⟩
  ·have:=h.good.tgm n b l hb;exact ⟨this.1,by omega⟩
  ·rcases key i b h1 with ⟨e1,e2⟩|⟨n1,k1⟩<;>rcases key j b h2 with ⟨e3,e4⟩|⟨n2,k2⟩
   ·rw [e1,e3]
   ·have:=(h.good.bxm j _ k2).2;omega
   ·have:=(h.good.bxm i _ k1).2;omega
   ·exact h.good.bxi i j b k1 k2
  ·rcases key i b h1 with ⟨rfl,rfl⟩|⟨n1,h1⟩
   ·have:=(h.good.tgm n _ l h2).2;omega
   ·exact h.good.bt i n b l h1 h2
 have h3:=h1.adv S he (h.kept.alloc _) hg;have hlt:d<a.tmps.size:=by rw [h.sz];exact hd
 refine ⟨by simp [Act.put,h.sz],h3.kept,h3.glob,fun i=> ?_,fun d' tid' cs' hd'=> ?_,hg,fun q hq=> ?_⟩
 case refine_3=>
  rcases List.mem_cons.1 hq with rfl|hq
  ·exact ⟨.pointer (some ⟨w.heap.size,0,none⟩),_,by simp [Fr.zgf],rfl⟩
  ·exact h3.ent q hq
 ·show RP _ _ _ (getS ((d,_)::_) i) ((a.tmps.setIfInBounds d _).getD i undef);rw [yoa _ hlt];simp only [getS];by_cases hi:i=d
  ·subst hi;rw [show Nat.beq i i=true from Nat.beq_refl i];simp only [cond_true,if_true];exact ⟨_,by simp [Fr.zgf],rfl⟩
  ·have:Nat.beq d i=false:=by cases hb:Nat.beq d i;rfl;exact absurd (Nat.eq_of_beq_eq_true hb).symm hi
   simp only [this,cond_false,hi,if_false];exact h3.slot i
 ·simp only [St.qbz,getB] at hd';cases hb:Nat.beq d d' with
  |true=>have:=Nat.eq_of_beq_eq_true hb;subst this;simp only [hb,cond_true,Option.some.injEq,Prod.mk.injEq] at hd';obtain ⟨rfl,rfl⟩:=hd';refine ⟨w.heap.size,vs,by simp [Fr.zgf],zkz w _,?_⟩;exact (RCs.map hmap hc).step S fun c _=>he.stays c
  |false=>simp only [hb,cond_false] at hd';exact h3.box d' tid' cs' hd'
theorem Inv.ygt {X:Ctx} {A:Fr} {σ:St} {tm:Array Value} {w w':World} (h:Inv X A σ tm w) {l:List Nat} {n g len:Nat} (hn:n∈l)
 (hkeep:∀b,b<w.heap.size→(¬X.F A b∨(∃d,A.bx d=some b)∨∃m k,A.tg m=some (b,k)∧m∉l)→w'.heap[b]? =w.heap[b]?)
 (hk:Kept X.G X.W w') (hmine:X.Mine g∧g<w'.heap.size) (hsize:w.heap.size≤w'.heap.size)
 (hg:w.heap.size≤g∨∃m k,A.tg m=some (g,k)∧m∈l):
 Inv X ((A.drop l).qeg n (some (g,len))) (σ.kill l) tm w':=by
 have hF:∀b,X.F ((A.drop l).qeg n (some (g,len))) b→X.F A b∨b=g:=fun b hb=>by
  rcases hb with hb|hb|⟨m,k,hb⟩
  ·exact .inl (.inl hb)
  ·exact .inl (.inr (.inl hb))
  ·simp only [Fr.qeg] at hb;split at hb
   ·cases hb;exact .inr rfl
   ·exact .inl (Fr.yww (.inr (.inr ⟨m,k,hb⟩)))
 have hgF:X.F A g∨w.heap.size≤g:=by
  rcases hg with hg|⟨m,k,hg,_⟩
  ·exact .inr hg
  ·exact .inl (.inr (.inr ⟨m,k,hg⟩))
 have S:Step (X.F A) (X.F ((A.drop l).qeg n (some (g,len)))) w w':=⟨fun b hb hlt=>hkeep b hlt (.inl hb),fun b hb=>by
  rcases hF b hb with h1|rfl
  ·exact .inl h1
  ·exact hgF⟩
 have htg:∀m,m∉l→((A.drop l).qeg n (some (g,len))).tg m=A.tg m:=fun m hm=>by
  have h1:m≠n:=fun e=>hm (e▸hn)
  have h2:mem l m=false:=by cases hb:mem l m;rfl;exact absurd (mem_iff.1 hb) hm
  simp [Fr.qeg,Fr.drop,h1,h2]
 have hkill:σ.kill l=σ.map (PC.zcs fun n=>bif mem l n then some false else none):=by
  cases l with
  |nil=>cases hn
  |cons x l=>rfl
 rw [hkill];refine h.map (fun c v hc=> ?_) hk S ?_ (fun d tid cs b vs _ hb hw=>⟨hb,(hkeep b (h.good.bxm d b hb).2 (.inr (.inl ⟨d,hb⟩))).trans hw⟩)
 ·cases c with
  |slice e t xs q=>
   cases q with
   |no=>exact RC.step S trivial hc
   |nil=>exact RC.step S trivial hc
   |exact=>exact RC.step S trivial hc
   |own m=>
    unfold PC.zcs;by_cases hm:m∈l
    ·simp only [mem_iff.2 hm,cond_true];exact RC.one hc
    ·have hm':mem l m=false:=by cases hb:mem l m;rfl;exact absurd (mem_iff.1 hb) hm
     simp only [hm',cond_false];exact RC.step S ⟨fun e=>(htg m hm).trans e,fun b k hb=>⟨(htg m hm).trans hb,hkeep b (h.good.tgm m b k hb).2 (.inr (.inr ⟨m,k,hb,hm⟩))⟩⟩ hc
  |elemT u m i o=>
   unfold PC.zcs;by_cases hm:m∈l
   ·simp only [mem_iff.2 hm,cond_true];exact RC.one hc
   ·have hm':mem l m=false:=by cases hb:mem l m;rfl;exact absurd (mem_iff.1 hb) hm
    simp only [hm',cond_false];exact RC.step S (fun b k hb=>(htg m hm).trans hb) hc
  |box d o=>exact RC.step S (fun _ h=>h) hc
  |pin _ _=>exact RC.step S (fun _ h=>h) hc
  |pinp _ _=>exact RC.step S (fun _ h=>h) hc
  |_=>exact RC.step S trivial hc
 ·have key:∀m b k,((A.drop l).qeg n (some (g,len))).tg m=some (b,k)→(m=n∧b=g)∨(m∉l∧A.tg m=some (b,k)):=fun m b k hb=>by
   simp only [Fr.qeg] at hb;split at hb
   ·cases hb;exact .inl ⟨‹_›,rfl⟩
   ·simp only [Fr.drop] at hb;split at hb
    ·cases hb
    ·rename_i hm;exact .inr ⟨fun hx=>hm (mem_iff.2 hx),hb⟩
  have hfresh:∀m k,A.tg m=some (g,k)→m∉l→False:=fun m k hm hl=>by
   rcases hg with hg|⟨m',k',hg,hl'⟩
   ·have:=(h.good.tgm m g k hm).2;omega
   ·exact hl (h.good.tgi m m' g k k' hm hg▸hl')
  have hfreshb:∀d,A.bx d=some g→False:=fun d hd=>by
   rcases hg with hg|⟨m',k',hg,hl'⟩
   ·have:=(h.good.bxm d g hd).2;omega
   ·exact h.good.bt d m' g k' hd hg
  refine ⟨fun d b hb=> ?_,fun m b k hb=> ?_,h.good.bxi,fun m m' b k k' h1 h2=> ?_,fun d m b k h1 h2=> ?_,h.good.f0⟩
  ·have:=h.good.bxm d b hb;exact ⟨this.1,by omega⟩
  ·rcases key m b k hb with ⟨_,rfl⟩|⟨_,hb⟩
   ·exact hmine
   ·have:=h.good.tgm m b k hb;exact ⟨this.1,by omega⟩
  ·rcases key m b k h1 with ⟨e1,e2⟩|⟨n1,k1⟩<;>rcases key m' b k' h2 with ⟨e3,e4⟩|⟨n2,k2⟩
   ·rw [e1,e3]
   ·rw [e2] at k2;exact (hfresh _ _ k2 n2).elim
   ·rw [e4] at k1;exact (hfresh _ _ k1 n1).elim
   ·exact h.good.tgi m m' b k k' k1 k2
  ·rcases key m b k h2 with ⟨_,rfl⟩|⟨_,k2⟩
   ·exact hfreshb d h1
   ·exact h.good.bt d m b k h1 k2
def DOK:D→TypeDesc→Prop
 | .bool,.bool=>True
 | .int k,.int k'=>k=k'
 | .str,.string=>True
 | .slice e,.slice e'=>e=e'
 | .struct fs,.struct fields=>fields.toList.map (fun f=>(f.offset,f.type))=fs
 | .array n e,.array n' e'=>n=n'∧e=e'
 | .other,.func _ _ _=>True
 | .map k e,.map k' e'=>k=k'∧e=e'
 |_,_=>False
def zjz:Ty→List Value
 | .bool=>[.bool false]
 | .int k=>[.int k 0]
 | .str=>[.string ByteArray.empty]
 | .fn=>[.nilFunc]
 | .slice _ _=>[.slice none 0 0]
 | .pair a b=>zjz a++zjz b
def zbg:(u:Ty)→u.den→List Value
 | .bool,x=>[.bool x]
 | .int k,n=>[.int k n]
 | .str,s=>[.string s]
 | .fn,f=>[.func (.func f) #[] #[]]
 | .slice _ _,_=>[]
 | .pair a b,x=>zbg a x.1++zbg b x.2
theorem Cl.flat {F:Nat→Prop} {w:World}:∀{u:Ty} {x:u.den} {cs:List Value},u.flat=true→Cl F w u x cs→cs=zbg u x
 | .bool,_,_,_,h=>by rw [Cl] at h;exact h
 | .int _,_,_,_,h=>by rw [Cl] at h;exact h
 | .str,_,_,_,h=>by rw [Cl] at h;exact h
 | .fn,_,_,_,h=>by rw [Cl] at h;exact h
 | .slice _ _,_,_,hf,_=>by cases hf
 | .pair a b,x,_,hf,h=>by simp only [Ty.flat,Bool.and_eq_true] at hf;rw [Cl] at h;obtain ⟨c1,c2,rfl,h1,h2⟩:=h;rw [Cl.flat hf.1 h1,Cl.flat hf.2 h2];rfl
theorem qhk {F:Nat→Prop} {A:Fr} {w:World}:∀(u:Ty),RCs F A w (ztz u) (zjz u)
 | .bool=>.cons rfl .nil
 | .int _=>.cons rfl .nil
 | .str=>.cons rfl .nil
 | .fn=>.cons rfl .nil
 | .slice _ _=>.cons ⟨rfl,none,rfl⟩ .nil
 | .pair a b=>(qhk a).append (qhk b)
theorem qyr {F:Nat→Prop} {w:World}:∀(u:Ty),zrj u=true→Cl F w u u.dflt (zjz u)
 | .bool,_=>by rw [Cl];rfl
 | .int _,_=>by rw [Cl];rfl
 | .str,_=>by rw [Cl];rfl
 | .fn,h=>by cases h
 | .slice _ _,_=>by rw [Cl];exact ⟨none,0,rfl,Nat.le_refl _,.inl rfl⟩
 | .pair a b,h=>by simp only [zrj,Bool.and_eq_true] at h;rw [Cl];exact ⟨_,_,rfl,qyr a h.1,qyr b h.2⟩
theorem zty:∀(u:Ty),(zjz u).length=u.sz
 | .bool| .int _| .str| .fn| .slice _ _=>rfl
 | .pair a b=>by simp [zjz,Ty.sz,zty a,zty b]
structure TIOK (P:Program) (t:TypeId) (i:TI):Prop where
 info:∃ti,P.info? t=some ti∧ti.size=i.size∧ti.bytes=i.bytes∧∃z,ti.zero=some z∧z.cells.size=i.size∧(∀u,i.ty=some u→z.cells.toList=zjz u)
 und:∃d,P.underlying t=some d∧DOK i.d d
 ty:∀u,i.ty=some u→u.sz=i.size
 pos:0<i.size→0<i.bytes
 fields:∀fs,i.d= .struct fs→∀q∈fs,∃tf,P.info? q.2=some tf∧tf.size≠0
 lay:∀fs u,i.d= .struct fs→i.ty=some u→∀f off ft,fs[f]? =some (off,ft)→∃v,Ty.offs fs.length f u=some (off,v)
 eq:i.eq=true→∀u,i.ty=some u→u.flat=true∧∀(w:World) (op:BinOp) (x y:Operand) (a b:u.den),
  (eqGuard op t x y (.agg (zbg u a).toArray) (.agg (zbg u b).toArray)).run P w= .ok () w∧(Op.equalIn 10000 t (.agg (zbg u a).toArray) (.agg (zbg u b).toArray)).run P w= .ok (eqD u a b) w
 one:i.agg=false→∀ti z,P.info? t=some ti→ti.zero=some z→z.oneCell'=true
section
variable {X:Ctx} {A:Fr} {σ:St} {a:Act} {w:World}
theorem zah (h:Inv X A σ a.tmps w) (x:Operand):RP (X.F A) A w (σ.ev x) (a.eval x):=by
 cases x with
 |tmp t=>exact h.slot t
 |const v=>
  unfold St.ev;split
  all_goals first
   |(rename_i he;cases he;rfl)
   |(rename_i he;cases he;exact ⟨[],rfl,.nil⟩)
   |trivial
   |(rename_i he;cases he)
 |func f=>exact ⟨[],rfl,.nil⟩
 |global g=>exact rfl
theorem ziu (t:TypeId) {p:PV} {v:Value} (h:RP (X.F A) A w p v):RP (X.F A) A w (X.E.typed t p) v:=by
 unfold Env.typed;split
 ·split
  ·split
   ·have hv:v= .slice none 0 0:=h;subst hv;exact ⟨rfl,none,rfl⟩
   ·exact h
  ·exact h
 ·exact h
theorem znr {o:Oper} {next:Act→World→Prop} {Q:Exit→Act→World→Prop} {v:Value} {w':World}
 (hr:(execOp a.eval o).run X.P w= .ok (.value v) w') (h:next (a.put o.dst v) w'):o.wp X.P a w next Q:=by
 unfold Oper.wp;rw [hr];exact h
theorem qwy {o:Oper} {next:Act→World→Prop} {Q:Exit→Act→World→Prop} {w':World}
 (hr:(execOp a.eval o).run X.P w= .ok .skip w') (h:next (a.put o.dst undef) w'):o.wp X.P a w next Q:=by
 unfold Oper.wp;rw [hr];exact h
theorem put_defers {dst:Option Tmp} {v:Value}:(a.put dst v).defers=a.defers:=by cases dst<;>rfl
end
def zbm (X:Ctx) (o:Oper) (σ σ':St):Prop:=
 ∀(A:Fr) (a:Act) (w:World),Inv X A σ a.tmps w→a.defers=[]→∀(next:Act→World→Prop) (Q:Exit→Act→World→Prop),
  (∀A' a' w',Inv X A' σ' a'.tmps w'→a'.defers=[]→next a' w')→o.wp X.P a w next Q
section
variable {X:Ctx}
theorem zbm.value {o:Oper} {σ:St} {p:PV} (hd:∀d,o.dst=some d→d<X.n)
 (h:∀(A:Fr) (a:Act) (w:World),Inv X A σ a.tmps w→∃v,(execOp a.eval o).run X.P w= .ok (.value v) w∧RP (X.F A) A w p v):zbm X o σ (σ.put o.dst p):=by
 intro A a w hi hdef next Q hn
 obtain ⟨v,hr,hp⟩:=h A a w hi;exact znr hr (hn A _ w (hi.put hd fun _=>hp) (by rw [put_defers];exact hdef))
theorem zwm {o:Oper} {σ:St} {x:Operand} (ho:o.op= .move x∨o.op= .assign x) (hd:∀d,o.dst=some d→d<X.n):zbm X o σ (σ.put o.dst (X.E.typed o.type (σ.ev x))):=
 .value hd fun A a w hi=>⟨a.eval x,by rcases ho with ho|ho<;>simp [execOp,ho],ziu _ (zah hi x)⟩
theorem ypa {o:Oper} {σ:St} {c x y:Operand} {t:Bool} (ho:o.op= .pick c x y) (hd:∀d,o.dst=some d→d<X.n) (hc:σ.ev c= .sv (.one (.bool t))):
 zbm X o σ (σ.put o.dst (X.E.typed o.type (σ.ev (bif t then x else y)))):=
 .value hd fun A a w hi=>by have h1:=zah hi c;rw [hc] at h1;have h1':a.eval c= .bool t:=h1;refine ⟨a.eval (bif t then x else y),?_,ziu _ (zah hi _)⟩;cases t<;>simp [execOp,ho,h1',asBool]
theorem cell_of_block {w:World} {b j:Nat} {vs:Array Value} {tid:TypeId} {fz:Nat×Nat} (h:w.heap[b]? =some (.cells vs tid fz)):w.cell? ⟨b,j,none⟩=vs[j]? :=by simp [World.cell?,h]
theorem zjf (b o j:Nat):(⟨b,o,none⟩:Addr).add j=⟨b,o+j,none⟩:=by unfold Addr.add;split<;>simp_all
theorem All2.length {α β:Type} {R:α→β→Prop} {l:List α} {m:List β} (h:All2 R l m):l.length=m.length:=by
 induction h with
 |nil=>rfl
 |cons _ _ ih=>simp [ih]
theorem yhi {P:Program} {t:TypeId} {i:TI} (h:TIOK P t i) (w:World):(isAgg t).run P w= .ok i.agg w:=by obtain ⟨d,hu,hd⟩:=h.und;unfold isAgg underlying;simp only [Sem.run_bind,run_program,Result.andThen_ok,hu];unfold TI.agg;cases hi:i.d<;>cases d<;>simp_all [DOK]
theorem zwy {P:Program} {t:TypeId} {i:TI} (h:TIOK P t i) (w:World):(sizeOf t).run P w= .ok i.size w:=by obtain ⟨ti,hi,hs,_⟩:=h.info;unfold sizeOf typeInfo;simp [hi,hs]
theorem qys {P:Program} {t:TypeId} {i:TI} (h:TIOK P t i) (w:World):∃z,(zeroValue t).run P w= .ok z w∧z.cells.size=i.size∧(∀u,i.ty=some u→z.cells.toList=zjz u):=by obtain ⟨ti,hi,_,_,z,hz,h1,h2⟩:=h.info;refine ⟨z,?_,h1,h2⟩;unfold zeroValue typeInfo;simp [hi,hz]
theorem yip {P:Program} {t:TypeId} {i:TI} (h:TIOK P t i) (ha:i.agg=false) (w:World):∃z,(zeroValue t).run P w= .ok z w∧z.oneCell'=true∧(∀u,i.ty=some u→z.cells.toList=zjz u):=by obtain ⟨ti,hi,_,_,z,hz,_,h2⟩:=h.info;refine ⟨z,?_,h.one ha ti z hi hz,h2⟩;unfold zeroValue typeInfo;simp [hi,hz]
theorem zkx {P:Program} {E:Env} {t:TypeId} {i:TI} (hi:E.ti t=some i) (ht:TIOK P t i) {F:Nat→Prop} {A:Fr} {w:World} {cs:List PC} {vs:List Value} {ad:Addr} (hc:RCs F A w cs vs) {s:SV} (hs:E.mkSV t cs=some s)
 (hl:cs.length=i.size) (hcell:∀j u,vs[j]? =some u→w.cell? (ad.add j)=some u):∃v,(loadVar t ad).run P w= .ok v w∧RS F A w s v:=by
 unfold Env.mkSV at hs;simp only [hi] at hs;have hvl:vs.length=i.size:=by rw [←hc.length,hl]
 unfold loadVar;simp only [Sem.run_bind,yhi ht,Result.andThen_ok,Sem.run_ite];cases hagg:i.agg with
 |true=>
  simp only [hagg,if_true,Option.some.injEq] at hs;subst hs;have hload:(loadCells ad i.size).run P w= .ok vs.toArray w:=by rw [←hvl];exact run_loadCells_list (P:=P) w ad vs hcell
  refine ⟨.agg vs.toArray,?_,vs,rfl,hc⟩;simp [zwy ht,hload]
 |false=>
  simp only [hagg,Bool.false_eq_true,if_false] at hs;cases hc with
  |nil=>simp at hs
  |cons h0 hr=>
   cases hr with
   |nil=>
    simp only [Option.some.injEq] at hs;subst hs;refine ⟨_,?_,h0⟩;have:=hcell 0 _ rfl;have h0':ad.add 0=ad:=by simp [Addr.add]
    rw [h0'] at this;simp [this]
   |cons _ _=>simp at hs
theorem zoh {α:Type} (l:List α) (o n j:Nat) (u:α) (h:((l.drop o).take n)[j]? =some u):l[o+j]? =some u:=by
 rw [List.getElem?_take] at h;split at h
 ·rw [List.getElem?_drop] at h;exact h
 ·cases h
theorem qtk {F:Nat→Prop} {A:Fr} {w:World} {g:Nat} {u:Ty} {e:TypeId} {xs:List u.den}:∀{cs:List PC} {vs:List Value},qye g cs=some ⟨u,e,xs⟩→RCs F A w cs vs→∃v,RC F A w (.slice e u xs (.own g)) v
 |[],_,hf,_=>by simp [qye] at hf
 |c::cs,_,hf,.cons h0 hr=>by
  unfold qye at hf;split at hf
  ·cases hf
  ·rename_i e' t' xs' n r he;cases he;cases hb:Nat.beq n g with
   |true=>simp only [hb,cond_true,Option.some.injEq] at hf;have:=Nat.eq_of_beq_eq_true hb;subst this;cases hf;exact ⟨_,h0⟩
   |false=>simp only [hb,cond_false] at hf;exact qtk hf hr
  ·rename_i he;cases he;exact qtk hf hr
theorem holder {F:Nat→Prop} {A:Fr} {w:World} {g:Nat} {u:Ty} {e:TypeId} {xs:List u.den}:∀{l:List (Nat×PV)},zzn g l=some ⟨u,e,xs⟩→
 (∀p∈l,∃v,RP F A w p.2 v)→∃v,RC F A w (.slice e u xs (.own g)) v
 |[],hf,_=>by simp [zzn] at hf
 |p::l,hf,hl=>by
  unfold zzn at hf;split at hf
  ·cases hf
  ·rename_i i s r he;cases he;split at hf
   ·rename_i y hy;cases hf;obtain ⟨v,hv⟩:=hl _ (List.mem_cons_self ..);exact qtk hy (RS.cells hv)
   ·exact holder hf fun q hq=>hl q (List.mem_cons_of_mem _ hq)
  ·rename_i he;cases he;exact holder hf fun q hq=>hl q (List.mem_cons_of_mem _ hq)
theorem yhb {E:Env} {σ:St} {t:TypeId} {d off:Nat} {s:SV} (h:zkf E σ t (.sv (.one (.box d off))) some=some s):
 ∃i tid cs,E.ti t=some i∧getB σ.b d=some (tid,cs)∧off+i.size≤cs.length∧E.mkSV t ((cs.drop off).take i.size)=some s:=by
 unfold zkf at h;cases hi:E.ti t with
 |none=>simp [hi] at h
 |some i=>
  simp only [hi] at h;cases hb:getB σ.b d with
  |none=>simp [hb] at h
  |some q=>
   obtain ⟨tid,cs⟩:=q;simp only [hb] at h;split at h
   ·rename_i hle;split at h
    ·cases h;exact ⟨i,tid,cs,rfl,rfl,hle,by assumption⟩
    ·cases h
   ·cases h
theorem qxx {E:Env} {σ:St} {t:TypeId} {u:Ty} {x:u.den} {s:SV} (h:zkf E σ t (.sv (.one (.elem u x))) some=some s):
 ∃i,E.ti t=some i∧i.ty=some u∧E.mkSV t (u.toPC x)=some s∧u.isMap=false:=by
 unfold zkf at h;cases hi:E.ti t with
 |none=>simp [hi] at h
 |some i=>
  simp only [hi] at h;split at h
  ·split at h
   ·rename_i hu;obtain ⟨hu,hm⟩:=hu;subst hu;split at h
    ·cases h;exact ⟨i,rfl,by assumption,by assumption,hm⟩
    ·cases h
   ·cases h
  ·cases h
theorem qtd {E:Env} {σ:St} {t:TypeId} {u:Ty} {g:Nat} {n:Int} {off:Nat} {s:SV} (h:zkf E σ t (.sv (.one (.elemT u g n off))) some=some s):
 ∃i e xs,E.ti t=some i∧zzn g σ.s=some ⟨u,e,xs⟩∧off+i.size≤u.sz∧E.mkSV t (((u.toPC (rd u xs n)).drop off).take i.size)=some s:=by
 unfold zkf at h;cases hi:E.ti t with
 |none=>simp [hi] at h
 |some i=>
  simp only [hi] at h;split at h
  ·rename_i u' e xs hf;split at h
   ·rename_i hle;obtain ⟨hu,hle⟩:=hle;subst hu;split at h
    ·cases h;exact ⟨i,e,xs,rfl,hf,hle,by assumption⟩
    ·cases h
   ·cases h
  ·cases h
structure zgk (P:Program) (E:Env):Prop where
 ti:∀t i,E.ti t=some i→TIOK P t i
theorem qhv (u:Ty) (x:u.den):(u.toPC x).length=u.sz:=by
 induction u with
 |pair a b iha ihb=>simp [Ty.toPC,Ty.sz,iha,ihb]
 |_=>rfl
theorem ygd {u:Ty} {xs:List u.den} {n:Int} (h:n.toNat<xs.length):xs[n.toNat]? =some (rd u xs n):=by unfold rd;rw [List.getElem?_eq_getElem h,List.getD_eq_getElem?_getD,List.getElem?_eq_getElem h];rfl
theorem ycv {A:Fr} {σ:St} {tm:Array Value} {w:World} (hi:Inv X A σ tm w) {g:Nat} {u:Ty} {e:TypeId} {xs:List u.den} (hf:zzn g σ.s=some ⟨u,e,xs⟩)
 {n:Int} {off:Nat} {v:Value} (hv:RC (X.F A) A w (.elemT u g n off) v):
 ∃b cap cur,A.tg g=some (b,xs.length)∧v= .pointer (some ⟨b,n.toNat*u.sz+off,none⟩)∧0≤n∧n.toNat<xs.length∧w.heap[b]? =some (.cells cur e (0,0))∧xs.length≤cap∧cap≤maxLen∧cur.size=cap*u.sz∧
  (∀i x,xs[i]? =some x→∃ds,Cl (X.F A) w u x ds∧∀j z,ds[j]? =some z→cur[i*u.sz+j]? =some z):=by
 obtain ⟨b,l,hb,h0,hlt,rfl⟩:=hv;obtain ⟨v',hv'⟩:=holder hf hi.ent;rcases hv' with ⟨hn,_⟩|⟨b',l',hb',hl',cap,cur,rfl,hh,h1,h2,h3,h4⟩
 ·rw [hn] at hb;cases hb
 ·rw [hb] at hb';cases hb';subst hl';exact ⟨b,cap,cur,hb,rfl,h0,hlt,hh,h1,h2,h3,h4⟩
theorem ypb {o:Oper} {σ:St} {t:TypeId} {x:Operand} {s:SV} (hE:zgk X.P X.E) (ho:o.op= .load t x) (hd:∀d,o.dst=some d→d<X.n)
 (hl:zkf X.E σ t (σ.ev x) some=some s):zbm X o σ (σ.put o.dst (.sv s)):=
 .value hd fun A a w hi=>by
  have hx:=zah hi x;have fin:∀ad,a.eval x= .pointer (some ad)→(∃v,(loadVar t ad).run X.P w= .ok v w∧RS (X.F A) A w s v)→
   ∃v,(execOp a.eval o).run X.P w= .ok (.value v) w∧RP (X.F A) A w (.sv s) v:=fun ad he ⟨v,hr,hs⟩=>by
   refine ⟨v,?_,hs⟩;simp [execOp,ho,Instr.loadAt,Instr.sureAddr,he,hr]
  generalize hp:σ.ev x=p at hx hl
  match p,hl,hx with
  | .sv (.one (.box d off)),hl,hx=>
    obtain ⟨i,tid,cs,hti,hb,hle,hs⟩:=yhb hl;obtain ⟨b,hbx,he⟩:=hx;obtain ⟨b',vs,hbx',hh,hc⟩:=hi.box d tid cs hb;rw [hbx] at hbx';cases hbx';refine fin _ he (zkx hti (hE.ti t i hti) (zhe (zhf hc off) i.size) hs (by simp;omega) fun j u hj=> ?_);rw [zjf,cell_of_block hh]
    simpa using zoh _ _ _ _ _ hj
  | .sv (.one (.elem u y)),hl,hx=>obtain ⟨i,hti,hty,hs,hm⟩:=qxx hl;obtain ⟨ad,cs,he,hF,hc,hcell⟩:=At.ptr hm hx;exact fin _ he (zkx hti (hE.ti t i hti) hc.toPC hs (by rw [qhv];exact (hE.ti t i hti).ty u hty) hcell)
  | .sv (.one (.elemT u g n off)),hl,hx=>obtain ⟨i,e,xs,hti,hf,hle,hs⟩:=qtd hl;obtain ⟨b,cap,cur,htg,he,h0,hlt,hh,h1,h2,h3,h4⟩:=ycv hi hf hx;obtain ⟨ds,hds,hcell⟩:=h4 _ _ (ygd hlt);refine fin _ he (zkx hti (hE.ti t i hti) (zhe (zhf hds.toPC off) i.size) hs (by simp [qhv];omega) fun j z hj=> ?_);rw [zjf,cell_of_block hh,Nat.add_assoc];exact hcell _ _ (zoh _ _ _ _ _ hj)
  | .sv (.one (.pinp b u)),hl,hx=>
    simp only [zkf] at hl;split at hl
    ·cases hl
    ·rename_i i hti;split at hl
     ·rename_i hc;cases hl;obtain ⟨bo,hb,he,hF,hcell⟩:=hx;refine fin _ he (zkx (cs:=[.pin b u]) (vs:=[zhh u bo b]) hti (hE.ti t i hti) (.cons ⟨bo,hb,rfl,hF,hcell⟩ .nil) (by simp [Env.mkSV,hti,hc.2]) (by simp [hc.1]) fun j z hj=> ?_);cases j with
      |zero=>simp only [List.getElem?_cons_zero,Option.some.injEq] at hj;subst hj;simpa [Addr.add] using hcell
      |succ j=>simp at hj
     ·cases hl
  | .sv (.one (.pin _ _)),hl,_=>simp only [zkf] at hl;split at hl<;>cases hl
  | .undef,hl,_=>simp only [zkf] at hl;split at hl<;>cases hl
  | .void,hl,_=>simp only [zkf] at hl;split at hl<;>cases hl
  | .tup _,hl,_=>simp only [zkf] at hl;split at hl<;>cases hl
  | .sv (.agg _),hl,_=>simp only [zkf] at hl;split at hl<;>cases hl
  | .sv (.one (.bool _)),hl,_| .sv (.one (.int _ _)),hl,_| .sv (.one (.str _)),hl,_| .sv (.one .nilS),hl,_| .sv (.one (.slice _ _ _ _)),hl,_
  | .sv (.one (.clo _ _)),hl,_| .sv (.one (.fnv _)),hl,_| .sv (.one (.glob _)),hl,_| .sv (.one .dead),hl,_=>simp only [zkf] at hl;split at hl<;>cases hl
end
section
variable {X:Ctx} {run:Runs X.E} {o:Oper} {σ σ':St}
theorem yun {F:Nat→Prop} {w:World}:∀{n i:Nat} {t:Ty} {x:t.den} {u:Ty} {y:u.den},Ty.proj n i t x=some ⟨u,y⟩→∀{cs:List Value},Cl F w t x cs→
 ∃off,Ty.offs n i t=some (off,u)∧∃ds,Cl F w u y ds∧∀j v,ds[j]? =some v→cs[off+j]? =some v
 |0,i,t,x,u,y,h=>by simp [Ty.proj] at h
 |1,0,t,x,u,y,h=>by intro hc;simp only [Ty.proj,Option.some.injEq] at h;cases h;exact ⟨0,by simp [Ty.offs],_,hc,fun j v hj=>by simpa using hj⟩
 |1,i+1,t,x,u,y,h=>by simp [Ty.proj] at h
 |n+2,i,t,x,u,y,h=>by
  intro hc;cases t with
  |pair a b=>
   rw [Cl] at hc;obtain ⟨c1,c2,rfl,h1,h2⟩:=hc;cases i with
   |zero=>simp only [Ty.proj,Option.some.injEq] at h;cases h;refine ⟨0,by simp [Ty.offs],c1,h1,fun j v hj=> ?_⟩;rw [Nat.zero_add,List.getElem?_append_left (List.getElem?_eq_some_iff.1 hj).1];exact hj
   |succ i=>simp only [Ty.proj] at h;obtain ⟨off,ho,ds,hd,hcell⟩:=yun h h2;refine ⟨a.sz+off,by simp [Ty.offs,ho],ds,hd,fun j v hj=> ?_⟩;rw [Nat.add_assoc,List.getElem?_append_right (by rw [h1.length];omega),h1.length,Nat.add_sub_cancel_left];exact hcell j v hj
  |_=>simp [Ty.proj] at h
theorem qhb {P:Program} {t:TypeId} {i:TI} (ht:TIOK P t i) {fs:List (Nat×TypeId)} (hd:i.d= .struct fs) {f off:Nat} {ft:TypeId} (hf:fs[f]? =some (off,ft)) (ad:Addr) (w:World):
 (Instr.fieldAt t (.pointer (some ad)) f).run P w= .ok (.pointer (some (ad.add off))) w:=by
 obtain ⟨d,hu,hk⟩:=ht.und;rw [hd] at hk;cases d with
 |struct fields=>
  have hk':fields.toList.map (fun f=>(f.offset,f.type))=fs:=hk;obtain ⟨tf,hti,hnz⟩:=ht.fields fs hd (off,ft) (List.mem_of_getElem? hf);have hget:∃g,fields[f]? =some g∧g.offset=off∧g.type=ft:=by
   rw [←hk',List.getElem?_map] at hf;cases hg:fields.toList[f]? with
   |none=>simp [hg] at hf
   |some g=>simp only [hg,Option.map_some,Option.some.injEq,Prod.mk.injEq] at hf;exact ⟨g,by simpa using hg,hf.1,hf.2⟩
  obtain ⟨g,hg,rfl,rfl⟩:=hget;simp [Instr.fieldAt,run_underlying hu,hg,Instr.sureAddr,fieldPlace,sizeOf,typeInfo,hti,hnz]
 |_=>exact hk.elim
theorem ydf (w:World) (a:Addr) (m n:Nat) (v:Value) (h:w.cell? (a.add (m+n))=some v) (h0:(a.add m).spot=none):w.cell? ((a.add m).add n)=some v:=by
 rw [←h];congr 1;obtain ⟨b,o,s⟩:=a;by_cases hm:m=0
 ·subst hm;have h0':s=none:=by simpa [Addr.add] using h0
  subst h0';simp only [zjf];simp
 ·have e:(⟨b,o,s⟩:Addr).add m=⟨b,o+m,none⟩:=by simp [Addr.add,hm]
  have e2:(⟨b,o,s⟩:Addr).add (m+n)=⟨b,o+(m+n),none⟩:=by simp [Addr.add,hm]
  rw [e,e2,zjf,Nat.add_assoc]
theorem qib {w:World} {a:Addr} {v:Value} (h:w.cell? a=some v):a.spot=none:=by
 unfold World.cell? at h;split at h
 ·cases hs:a.spot with
  |none=>rfl
  |some x=>simp [hs] at h
 ·cases h
theorem qql {t:TypeId} {p:Operand} {f:Nat} (hE:zgk X.P X.E) (ho:o.op= .fieldAddr t p f) (hd:∀d,o.dst=some d→d<X.n)
 (h:opK X.E run σ o some=some σ'):zbm X o σ σ':=by
 simp only [opK,ho] at h;split at h
 ·rename_i i hti;have ht:=hE.ti t i hti;split at h
  ·rename_i fs hfs;split at h
   ·rename_i off ft d q hf hev;cases h;refine .value hd fun A a w hi=> ?_
    have hx:=zah hi p;rw [hev] at hx;obtain ⟨b,hb,he⟩:=hx;refine ⟨_,by simp [execOp,ho,he,qhb ht hfs hf]<;>rfl,b,hb,?_⟩;rw [zjf]
   ·rename_i off ft u g n q hf hev;cases h;refine .value hd fun A a w hi=> ?_
    have hx:=zah hi p;rw [hev] at hx;obtain ⟨b,l,hb,h0,hlt,he⟩:=hx;refine ⟨_,by simp [execOp,ho,he,qhb ht hfs hf]<;>rfl,b,l,hb,h0,hlt,?_⟩;rw [zjf,Nat.add_assoc]
   ·rename_i q u x hf hev;split at h
    ·rename_i u' hty;split at h
     ·rename_i hu;obtain ⟨hu,hm⟩:=hu;subst hu;split at h
      ·rename_i t' y hp;cases hm':t'.isMap with
       |true=>simp [hm'] at h
       |false=>
       simp only [hm',cond_false] at h;cases h;refine .value hd fun A a w hi=> ?_
       have hx:=zah hi p;rw [hev] at hx;obtain ⟨ad,cs,he,hF,hc,hcell⟩:=At.ptr hm hx;obtain ⟨off,ft⟩:=q;obtain ⟨v',hoffs⟩:=ht.lay fs _ hfs hty f off ft hf;obtain ⟨off',hoffs',ds,hds,hsub⟩:=yun hp hc;rw [hoffs] at hoffs';cases hoffs';have hlen:=hds.length;have hpos:=Ty.zpw t';have h0:=hcell _ _ (hsub 0 (ds[0]'(by omega)) (by simp));have hsp:=qib h0;refine ⟨_,by simp [execOp,ho,he,qhb ht hfs hf]<;>rfl,.inl ⟨hm',ad.add off,ds,rfl,?_,hds,fun j z hj=> ?_⟩⟩
       ·have:(ad.add off).block=ad.block:=by unfold Addr.add;split<;>rfl
        rw [this];exact hF
       ·exact ydf w ad off j z (hcell _ _ (hsub j z hj)) (by simpa using hsp)
      ·cases h
     ·cases h
    ·cases h
   ·cases h
  ·cases h
 ·cases h
theorem qcn {n:Int} {len:Nat} (h:zaa n len=true):0≤n∧n<(len:Int):=by
 unfold zaa at h
 simpa using h
theorem qgv {P:Program} {t e:TypeId} {i:TI} (ht:TIOK P t i) (hd:i.d= .slice e) (ad:Addr) (len cap:Nat) (k:IntKind) (n:Int) (h:0≤n∧n<(len:Int)) {ie:TypeInfo} (he:P.info? e=some ie) (w:World):
 (Instr.indexAt t (.slice (some ad) len cap) (.int k n)).run P w= .ok (.pointer (some (ad.add (n.toNat*ie.size)))) w:=by
 obtain ⟨d,hu,hk⟩:=ht.und;rw [hd] at hk;cases d with
 |slice e'=>have:e=e':=hk;subst this;simp [Instr.indexAt,run_underlying hu,asIntOf,h,sizeOf,typeInfo,he]
 |_=>exact hk.elim
theorem yhj {P:Program} {t e:TypeId} {i ie:TI} {m:Nat} (ht:TIOK P t i) (hd:i.d= .array m e) (he:TIOK P e ie) (ad:Addr) (k:IntKind) (n:Int) (h:0≤n∧n<(m:Int)) (w:World):
 (Instr.indexAt t (.pointer (some ad)) (.int k n)).run P w= .ok (.pointer (some (ad.add (n.toNat*ie.size)))) w:=by
 obtain ⟨d,hu,hk⟩:=ht.und;rw [hd] at hk;cases d with
 |array m' e'=>obtain ⟨rfl,rfl⟩:=hk;simp [Instr.indexAt,run_underlying hu,asIntOf,h,zwy he,Instr.sureAddr]
 |_=>exact hk.elim
structure quu (P:Program) (E:Env):Prop where
 row:∀t i e u,E.ti t=some i→i.ty=some (.slice e u)→∃e',i.d= .slice e'∧∃ti,P.info? e'=some ti∧ti.size=u.sz
 el:∀t i e u,E.ti t=some i→i.d= .slice e→i.ty=some (.slice e u)→∃ti,P.info? e=some ti∧ti.size=u.sz
 arr:∀t i n e,E.ti t=some i→i.d= .array n e→∃ti,P.info? e=some ti
theorem qqk {t:TypeId} {x ix:Operand} (hE:zgk X.P X.E) (hL:quu X.P X.E) (ho:o.op= .indexAddr t x ix) (hd:∀d,o.dst=some d→d<X.n)
 (h:opK X.E run σ o some=some σ'):zbm X o σ σ':=by
 simp only [opK,ho] at h;split at h
 ·rename_i i hti;have ht:=hE.ti t i hti;split at h
  ·rename_i e e' u xs g k n hfs hex hei;split at h
   ·rename_i he;obtain ⟨rfl,hty⟩:=he;cases hok:zaa n xs.length with
    |false=>simp [hok] at h
    |true=>
     simp only [hok,cond_true] at h;obtain ⟨h0,hlt⟩:=qcn hok;have hlt':n.toNat<xs.length:=by omega
     obtain ⟨ie,hie,hsz⟩:=hL.el t i e' u hti hfs hty;have plain:u.isMap=false→∀(A:Fr) (a:Act) (w:World),Inv X A σ a.tmps w→Cl (X.F A) w (.slice e' u) xs [a.eval x]→∃v,(execOp a.eval o).run X.P w= .ok (.value v) w∧RP (X.F A) A w (.sv (.one (.elem u (rd u xs n)))) v:=by
      intro hmu A a w hi hc;have hn:=zah hi ix;rw [hei] at hn;have hn':a.eval ix= .int k n:=hn;rw [Cl] at hc;obtain ⟨ad,c,he,hcap,hrow⟩:=hc;simp only [List.cons.injEq,and_true] at he;rcases hrow with rfl|⟨ad',rfl,hF,hrow⟩
      ·simp at hlt'
      ·obtain ⟨ds,hds,hcell⟩:=hrow _ _ (ygd hlt');have hlen:=hds.length;have hpos:=Ty.zpw u;have hsp:=qib (hcell 0 (ds[0]'(by omega)) (by simp));refine ⟨_,by simp [execOp,ho,he,hn',qgv ht hfs ad' xs.length c k n ⟨h0,hlt⟩ hie]<;>rfl,.inl ⟨hmu,_,ds,rfl,?_,hds,fun j z hj=> ?_⟩⟩
       ·have:(ad'.add (n.toNat*ie.size)).block=ad'.block:=by unfold Addr.add;split<;>rfl
        rw [this];exact hF
       ·rw [hsz];exact ydf w ad' _ j z (hcell j z hj) (by simpa using hsp)
     split at h
     ·rename_i m;cases h;refine .value hd fun A a w hi=> ?_
      have hx:=zah hi x;rw [hex] at hx;have hn:=zah hi ix;rw [hei] at hn;have hn':a.eval ix= .int k n:=hn;rcases hx with ⟨_,rfl,_⟩|⟨b,l,hb,hl,cap,cur,he,hh,h1,h2,h3,h4⟩
      ·simp at hlt'
      ·subst hl;refine ⟨_,by simp [execOp,ho,he,hn',qgv ht hfs _ xs.length cap k n ⟨h0,hlt⟩ hie]<;>rfl,b,_,hb,h0,hlt',?_⟩;rw [zjf,hsz];simp
     ·rename_i hg;cases hmu:u.isMap with
      |true=>simp [hmu] at h
      |false=>
      simp only [hmu,cond_false] at h;cases h;refine .value hd fun A a w hi=> ?_
      have hx:=zah hi x;rw [hex] at hx;cases g with
      |no=>exact plain hmu A a w hi hx
      |nil=>obtain ⟨rfl,_⟩:=hx;simp at hlt'
      |exact=>exact plain hmu A a w hi hx.1
      |own m=>exact (hg m rfl).elim
   ·cases h
  ·rename_i m e d' o' k n hfs hex hei;split at h
   ·rename_i ie hie;split at h
    ·rename_i hok;cases h;refine .value hd fun A a w hi=> ?_
     have hx:=zah hi x;rw [hex] at hx;obtain ⟨b,hb,he⟩:=hx;have hn:=zah hi ix;rw [hei] at hn;have hn':a.eval ix= .int k n:=hn;refine ⟨_,by simp [execOp,ho,he,hn',yhj ht hfs (hE.ti e ie hie) _ k n (qcn hok)]<;>rfl,b,hb,?_⟩;rw [zjf]
    ·cases h
   ·cases h
  ·cases h
 ·cases h
theorem yrf {s:ByteArray} {n:Int} (h:zaa n s.size=true):∃b,s[n.toNat]? =some b∧(b.toNat:Int)=quf s n∧0≤n:=by
 obtain ⟨h0,h1⟩:=qcn h;have hlt:n.toNat<s.size:=by omega
 refine ⟨s[n.toNat],?_,?_,h0⟩
 ·exact getElem?_pos s n.toNat hlt
 ·unfold quf
  congr 2
  have:n.toNat<s.data.size:=hlt;rw [Array.getD_eq_getD_getElem?,Array.getElem?_eq_getElem this];rfl
theorem ycu {t:Operand} {ix:Nat} (ho:o.op= .extract t ix) (hd:∀d,o.dst=some d→d<X.n) (h:opK X.E run σ o some=some σ'):zbm X o σ σ':=by
 simp only [opK,ho] at h;split at h
 ·rename_i l hl;split at h
  ·rename_i s hs;cases h;refine .value hd fun A a w hi=> ?_
   have hx:=zah hi t;rw [hl] at hx;obtain ⟨vs,he,hvs⟩:=hx;have:∀{l:List SV} {vs:List Value} {ix:Nat},All2 (RS (X.F A) A w) l vs→l[ix]? =some s→∃v,vs[ix]? =some v∧RS (X.F A) A w s v:=by
    intro l vs ix h
    induction h generalizing ix with
    |nil=>intro h;simp at h
    |cons h0 _ ih=>
     intro h;cases ix with
     |zero=>simp at h;subst h;exact ⟨_,rfl,h0⟩
     |succ ix=>simpa using ih (by simpa using h)
   obtain ⟨v,hv,hr⟩:=this hvs hs;refine ⟨v,?_,hr⟩;simp [execOp,ho,he,Instr.extract,hv]
  ·cases h
 ·cases h
theorem yod {F:Nat→Prop} {w:World} {e:TypeId} {u:Ty} (n:Int):∀{xs:List (Int×List u.den)} {es:List MapEntry} (i:Nat),
 All2 (fun (p:Int×List u.den) (z:MapEntry)=>z.key= .int .i64 p.1∧Cl F w (.slice e u) p.2 [z.val]) xs es→
 (Instr.findNow (.int .i64) (.int .i64 n) es i=some none∧zmy xs n=[])∨∃j v,Instr.findNow (.int .i64) (.int .i64 n) es i=some (some (j,v))∧Cl F w (.slice e u) (zmy xs n) [v]
 |[],_,i,.nil=>.inl ⟨rfl,rfl⟩
 |x::xs,z::es,i,.cons ⟨hk,hc⟩ hr=>by
  by_cases hn:x.1=n
  ·refine .inr ⟨i,z.val,?_,?_⟩
   ·simp [Instr.findNow,Instr.sameNow,hk,hn]
   ·simp only [zmy,hn,decide_true,cond_true];exact hc
  ·have h0:Instr.findNow (.int .i64) (.int .i64 n) (z::es) i=Instr.findNow (.int .i64) (.int .i64 n) es (i+1):=by
    have:(n==x.1)=false:=by rw [beq_eq_false_iff_ne];exact fun h=>hn h.symm
    simp [Instr.findNow,Instr.sameNow,hk,this]
   have h1:zmy (x::xs) n=zmy xs n:=by simp only [zmy,hn,decide_false,cond_false]
   rw [h0,h1];exact yod n (i+1) hr
theorem yha {t:TypeId} {m k:Operand} {ok:Bool} (hE:zgk X.P X.E) (ho:o.op= .lookup t m k ok) (hd:∀d,o.dst=some d→d<X.n) (h:opK X.E run σ o some=some σ'):zbm X o σ σ':=by
 cases ok with
 |true=>simp only [opK,ho] at h;cases h
 |false=>
 simp only [opK,ho] at h;split at h
 ·rename_i i hti;split at h
  ·rename_i kt et hid;split at h
   ·rename_i ik ie hik hie;split at h
    ·rename_i e' mk e u xs n hk hie2 hm hn;split at h
     ·rename_i hc;obtain ⟨rfl,hmk,hty⟩:=hc;cases h;refine .value hd fun A a w hi=> ?_
      have hx:=zah hi m;rw [hm] at hx;have hv:=zah hi k;rw [hn] at hv;have hv':a.eval k= .int .i64 n:=hv;have hM:MapAt (X.F A) w (.slice mk (.pair (.int .i64) (.slice e' u))) xs (a.eval m):=At.map hmk hx;unfold MapAt at hM;obtain ⟨_,b,es,cl,hmv,hF,hh,hr⟩:=hM;obtain ⟨d1,hu1,hd1⟩:=(hE.ti t i hti).und;obtain ⟨d2,hu2,hd2⟩:=(hE.ti kt ik hik).und;obtain ⟨z,hz,hzs,hzv⟩:=yip (hE.ti et ie hie) (by unfold TI.agg;rw [hie2]) w;rw [hid] at hd1;rw [hk] at hd2;cases d1<;>try exact hd1.elim
      cases d2<;>try exact hd2.elim
      obtain ⟨rfl,rfl⟩:=hd1;have hk2:_=_:=hd2;subst hk2;have hzv':=hzv _ hty;have hck:(Instr.checkKey es.isEmpty 10000 kt (.int .i64 n)).run X.P w= .ok () w:=by rw [show (10000:Nat)=9999+1 from rfl];unfold Instr.checkKey;simp [run_underlying hu2]
      have hgo:(getObj b).run X.P w= .ok (.map es cl) w:=by simp [getObj,Sem.run,hh]
      rcases yod (e:=e') (u:=u) n 0 hr with ⟨h1,h2⟩|⟨j,v,h1,h2⟩
      ·refine ⟨z,?_,?_⟩
       ·simp [execOp,ho,hmv,hv',Instr.lookup,run_underlying hu1,run_underlying hu2,hgo,hck,Instr.findKey,h1,hz]
       ·rw [h2];have hz1:z= .slice none 0 0:=by
         have h1c:z.oneCell'=true:=hzs;rw [zuy h1c] at hzv'
         simpa [zjz] using hzv'
        rw [hz1];show Cl _ _ _ _ _;rw [Cl];exact ⟨none,0,rfl,Nat.le_refl _,.inl rfl⟩
      ·refine ⟨v,?_,h2⟩;simp [execOp,ho,hmv,hv',Instr.lookup,run_underlying hu1,run_underlying hu2,hgo,hck,Instr.findKey,h1]
     ·cases h
    ·cases h
   ·cases h
  ·cases h
 ·cases h
theorem qvy {x:Operand} (ho:o.op= .nilCheck x) (hd:∀d,o.dst=some d→d<X.n) (h:opK X.E run σ o some=some σ'):zbm X o σ σ':=by
 simp only [opK,ho] at h;have key:∀{c:PC},σ.ev x= .sv (.one c)→(∀(A:Fr) (a:Act) (w:World) (v:Value),Inv X A σ a.tmps w→RC (X.F A) A w c v→∃ad,v= .pointer (some ad))→zbm X o σ (σ.put o.dst (.sv (.one c))):=by
  intro c hc hp;refine .value hd fun A a w hi=> ?_
  have hx:=zah hi x;rw [hc] at hx;obtain ⟨ad,he⟩:=hp A a w _ hi hx;exact ⟨a.eval x,by simp [execOp,ho,he],hx⟩
 split at h
 ·cases h;exact key (by assumption) fun A a w v _ hc=>by obtain ⟨b,_,rfl⟩:=hc;exact ⟨_,rfl⟩
 ·rename_i t y hev;cases hm:t.isMap with
  |true=>simp [hm] at h
  |false=>simp only [hm,cond_false] at h;cases h;exact key hev fun A a w v _ hc=>by obtain ⟨b,_,rfl,_⟩:=At.ptr hm hc;exact ⟨_,rfl⟩
 ·cases h;exact key (by assumption) fun A a w v _ hc=>by obtain ⟨b,_,_,_,_,rfl⟩:=hc;exact ⟨_,rfl⟩
 ·cases h
theorem yos {op:UnOp} {t:TypeId} {x:Operand} (ho:o.op= .unOp op t x) (hd:∀d,o.dst=some d→d<X.n) (h:opK X.E run σ o some=some σ'):zbm X o σ σ':=by
 simp only [opK,ho] at h;split at h
 ·rename_i b hx;cases h;refine .value hd fun A a w hi=> ?_
  have hv:=zah hi x;rw [hx] at hv;have hv':a.eval x= .bool b:=hv;exact ⟨.bool (!b),by simp [execOp,ho,hv',Op.unary],rfl⟩
 ·rename_i k n hx;cases h;refine .value hd fun A a w hi=> ?_
  have hv:=zah hi x;rw [hx] at hv;have hv':a.eval x= .int k n:=hv;exact ⟨.int k (k.wrap (0-n)),by simp [execOp,ho,hv',Op.unary,Op.intArith],rfl⟩
 ·cases h
theorem ydb {src dst:TypeId} {x:Operand} (hE:zgk X.P X.E) (ho:o.op= .convert src dst x) (hd:∀d,o.dst=some d→d<X.n) (h:opK X.E run σ o some=some σ'):zbm X o σ σ':=by
 simp only [opK,ho] at h;split at h
 ·rename_i i j k' n hi hj hx;split at h
  ·rename_i k1 k2 h1 h2;cases h;refine .value hd fun A a w hinv=> ?_
   have hv:=zah hinv x;rw [hx] at hv;have hv':a.eval x= .int k' n:=hv;obtain ⟨d1,hu1,hd1⟩:=(hE.ti src i hi).und;obtain ⟨d2,hu2,hd2⟩:=(hE.ti dst j hj).und;rw [h1] at hd1;rw [h2] at hd2;cases d1<;>try exact hd1.elim
   cases d2<;>try exact hd2.elim
   have:k2=_:=hd2;subst this;exact ⟨_,by simp [execOp,ho,hv',convert,run_underlying hu1,run_underlying hu2,Conv.intToInt]<;>rfl,rfl⟩
  ·cases h
 ·cases h
end
section
variable {X:Ctx} {run:Runs X.E} {o:Oper} {σ σ':St}
theorem Kept.setRow {G:Nat→Prop} {W w:World} (h:Kept G W w) {b:Nat} (hb:W.heap.size≤b∨G b) (vs:Array Value):Kept G W (w.setRow b vs):=
 ⟨h.os,h.tape,h.output,by rw [size_setRow];exact h.size,fun k hk hg=>by
  have hne:k≠b:=fun e=>by subst e;rcases hb with hb|hb;omega;exact hg hb
  rw [setRow_other w b k vs hne];exact h.block k hk hg,h.drawn⟩
theorem Inv.xjt {A:Fr} {tm:Array Value} {w:World} (h:Inv X A σ tm w) {d b:Nat} {tid:TypeId} {vs vs':Array Value} {cs':List PC} (hbx:A.bx d=some b)
 (hh:w.heap[b]? =some (.cells vs tid (0,0))) (hc:RCs (X.F A) A w cs' vs'.toList):
 Inv X A {σ with b:=(d,(tid,cs'))::delB σ.b d} tm (w.setRow b vs'):=by
 have hF:X.F A b:=.inr (.inl ⟨d,hbx⟩);have hk:∀k,k≠b→(w.setRow b vs').heap[k]? =w.heap[k]? :=fun k hk=>setRow_other w b k vs' hk
 have S:Step (X.F A) (X.F A) w (w.setRow b vs'):=⟨fun k hf _=>hk k fun e=>hf (e▸hF),fun _ hf=>.inl hf⟩;have st:∀c,yrk A A w (w.setRow b vs') c:=fun c=>by
  cases c with
  |slice e t xs g=>cases g with
   |own n=>exact ⟨fun h=>h,fun g l hg=>⟨hg,hk g fun e=>h.good.bt d n b l hbx (e▸hg)⟩⟩
   |_=>trivial
  |elemT u n i o=>exact fun g l hg=>hg
  |box d o=>exact fun _ h=>h
  |pin _ _=>exact fun _ h=>h
  |pinp _ _=>exact fun _ h=>h
  |_=>trivial
 refine ⟨h.sz,h.kept.setRow (h.good.bxm d b hbx).1 vs',h.glob.step S,fun i=> ?_,fun d' tid' cs hd'=> ?_,?_,fun q hq=> ?_⟩
 ·refine RP.step S ?_ (h.slot i);show (σ.get i).all _;cases σ.get i with
  |sv s=>exact fun c _=>st c
  |tup l=>exact fun s _ c _=>st c
  |_=>trivial
 ·simp only [getB] at hd';cases hb:Nat.beq d d' with
  |true=>have:=Nat.eq_of_beq_eq_true hb;subst this;simp only [hb,cond_true,Option.some.injEq,Prod.mk.injEq] at hd';obtain ⟨rfl,rfl⟩:=hd';exact ⟨b,vs',hbx,setRow_heap w b vs vs' tid (0,0) hh,hc.step S fun c _=>st c⟩
  |false=>
   have hne:d'≠d:=fun e=>by rw [e,Nat.beq_refl] at hb;cases hb
   simp only [hb,cond_false,zqj,hne,if_false] at hd';obtain ⟨b1,vs1,h1,h2,h3⟩:=h.box d' tid' cs hd';have hbne:b1≠b:=fun e=>hne (h.good.bxi d' d b1 h1 (e▸hbx))
   exact ⟨b1,vs1,h1,(hk b1 hbne).trans h2,h3.step S fun c _=>st c⟩
 ·exact ⟨fun d b hb=>by rw [size_setRow];exact h.good.bxm d b hb,fun n b l hb=>by rw [size_setRow];exact h.good.tgm n b l hb,h.good.bxi,h.good.tgi,h.good.bt,h.good.f0⟩
 ·obtain ⟨v,hv⟩:=h.ent q hq;refine ⟨v,RP.step S ?_ hv⟩;cases q.2 with
  |sv s=>exact fun c _=>st c
  |tup l=>exact fun s _ c _=>st c
  |_=>trivial
theorem Inv.xgl {A:Fr} {tm:Array Value} {w:World} (h:Inv X A σ tm w) {g b:Nat} {u:Ty} {e:TypeId} {xs:List u.den} {cur:Array Value} {cap:Nat} (htg:A.tg g=some (b,xs.length))
 (hh:w.heap[b]? =some (.cells cur e (0,0))) (hcap:xs.length≤cap) (hcm:cap≤maxLen) (hcs:cur.size=cap*u.sz)
 (hrow:∀i x,xs[i]? =some x→∃ds,Cl (X.F A) w u x ds∧∀j z,ds[j]? =some z→cur[i*u.sz+j]? =some z)
 {i:Nat} (hi:i<xs.length) {y:u.den} {ys:List Value} (hy:Cl (X.F A) w u y ys) {cur':Array Value} (hs':cur'.size=cur.size)
 (hin:∀j z,ys[j]? =some z→cur'[i*u.sz+j]? =some z) (hout:∀k,(k<i*u.sz∨(i+1)*u.sz≤k)→cur'[k]? =cur[k]?):
 Inv X A (σ.map (PC.qij g u (xs.set i y))) tm (w.setRow b cur'):=by
 have hF:X.F A b:=.inr (.inr ⟨g,_,htg⟩);have hk:∀k,k≠b→(w.setRow b cur').heap[k]? =w.heap[k]? :=fun k hk=>setRow_other w b k cur' hk
 have S:Step (X.F A) (X.F A) w (w.setRow b cur'):=⟨fun k hf _=>hk k fun e=>hf (e▸hF),fun _ hf=>.inl hf⟩;have hnew:=setRow_heap w b cur cur' e (0,0) hh;refine h.map (fun c v hc=> ?_) (h.kept.setRow (h.good.tgm g b _ htg).1 cur') S
  ⟨fun d b hb=>by rw [size_setRow];exact h.good.bxm d b hb,fun n b l hb=>by rw [size_setRow];exact h.good.tgm n b l hb,h.good.bxi,h.good.tgi,h.good.bt,h.good.f0⟩
  (fun d tid cs b1 vs _ hb hw=>⟨hb,(hk b1 fun e=>h.good.bt d g b _ (e▸hb) htg).trans hw⟩)
 cases c with
 |slice e1 t1 xs1 q=>
  cases q with
  |no=>exact RC.step S trivial hc
  |nil=>exact RC.step S trivial hc
  |exact=>exact RC.step S trivial hc
  |own n=>
   unfold PC.qij;cases hb:Nat.beq n g with
   |true=>
    have:=Nat.eq_of_beq_eq_true hb;subst this;simp only [hb,cond_true];split
    ·rename_i hu;subst hu;rcases hc with ⟨hn,_⟩|⟨b1,l,hb1,hl,cap1,cur1,rfl,hh1,h1,h2,h3,h4⟩
     ·rw [hn] at htg;cases htg
     ·rw [htg] at hb1;cases hb1;rw [hh] at hh1;cases hh1;refine .inr ⟨b,_,htg,by simp,cap1,cur',by simp [hl],hnew,by simp [hl,h1],h2,by rw [hs'];exact h3,fun k x hx=> ?_⟩;rw [List.getElem?_set] at hx;split at hx
      ·rename_i hki;subst hki;simp only [hi,if_true,Option.some.injEq] at hx;subst hx;exact ⟨ys,hy.step S,hin⟩
      ·rename_i hki;obtain ⟨ds,hds,hcell⟩:=hrow k x hx;refine ⟨ds,hds.step S,fun j z hj=> ?_⟩;have hjl:=(List.getElem?_eq_some_iff.1 hj).1;rw [hds.length] at hjl;rw [hout _ ?_];exact hcell j z hj;rcases Nat.lt_or_gt_of_ne hki with h5|h5
       ·right;have:(i+1)*u.sz≤k*u.sz:=Nat.mul_le_mul_right _ h5;omega
       ·left;have:(k+1)*u.sz≤i*u.sz:=Nat.mul_le_mul_right _ h5;rw [Nat.add_mul] at this;omega
    ·exact RC.one hc
   |false=>
    simp only [hb,cond_false];have hne:n≠g:=fun e=>by rw [e,Nat.beq_refl] at hb;cases hb
    exact RC.step S ⟨fun h=>h,fun b1 l hg=>⟨hg,hk b1 fun e=>hne (h.good.tgi n g b l _ (e▸hg) htg)⟩⟩ hc
 |elemT u n i o=>exact RC.step S (fun b1 l hg=>hg) hc
 |box d o=>exact RC.step S (fun _ h=>h) hc
 |pin _ _=>exact RC.step S (fun _ h=>h) hc
 |pinp _ _=>exact RC.step S (fun _ h=>h) hc
 |_=>exact RC.step S trivial hc
theorem ymf {t:TypeId} (hE:zgk X.P X.E) (ho:o.op= .alloc t) (hd:∀d,o.dst=some d→d<X.n) (h:opK X.E run σ o some=some σ'):zbm X o σ σ':=by
 simp only [opK,ho] at h;split at h
 ·rename_i i d hti hdst;split at h
  ·rename_i u hty;simp only [Option.some.injEq] at h;subst h;intro A a w hi hdef next Q hn
   obtain ⟨z,hrz,hzs,hzv⟩:=qys (hE.ti t i hti) w;have hRC:RCs (X.F A) A w (ztz u) z.cells.toList:=by rw [hzv u hty];exact qhk u
   obtain ⟨A',hA'⟩:=hi.qbz (hd d hdst) t hRC;refine znr (v:=.pointer (some ⟨w.heap.size,0,none⟩)) (w':=w.alloc (.cells z.cells t)) ?_ (hn A' _ _ (by rw [hdst];exact hA') (by rw [put_defers];exact hdef));simp [execOp,ho,Instr.alloc,hrz,newVar,newRow]
  ·cases h
 ·cases h
theorem yxl {t:TypeId} {x:Operand} (ho:o.op= .box t x) (hd:∀d,o.dst=some d→d<X.n) (h:opK X.E run σ o some=some σ'):zbm X o σ σ':=by
 simp only [opK,ho] at h;split at h
 ·rename_i i d s hti hdst hs;split at h
  ·cases h;intro A a w hi hdef next Q hn
   have hx:RP (X.F A) A w _ _:=ziu t (zah hi x);rw [hs] at hx;obtain ⟨A',hA'⟩:=hi.qbz (hd d hdst) t (RS.cells hx);refine znr (v:=.pointer (some ⟨w.heap.size,0,none⟩)) (w':=w.alloc (.cells (a.eval x).cells t)) ?_ (hn A' _ _ (by rw [hdst];exact hA') (by rw [put_defers];exact hdef));simp [execOp,ho,Instr.box,newVar,newRow]
  ·cases h
 ·cases h
theorem yse {F:Nat→Prop} {A:Fr} {w:World} {cs:List PC} {vs:List Value} (h:RCs F A w cs vs):∀v∈vs,v.oneCell'=true:=by
 induction h with
 |nil=>intro v hv;cases hv
 |cons h0 _ ih=>
  intro v hv;rcases List.mem_cons.1 hv with rfl|hv
  ·exact RC.one h0
  ·exact ih v hv
theorem qgz {α β:Type} {R:α→β→Prop} {l n:List α} {m k:List β} (h:All2 R l m) (hn:All2 R n k) (o:Nat):
 All2 R (l.take o++n++l.drop (o+n.length)) (m.take o++k++m.drop (o+k.length)):=by
 have app:∀{a b:List α} {c d:List β},All2 R a c→All2 R b d→All2 R (a++b) (c++d):=fun h1 h2=>by
  induction h1 with
  |nil=>exact h2
  |cons h0 _ ih=>exact .cons h0 ih
 rw [hn.length];exact app (app (zhe h o) hn) (zhf h _)
theorem znf {α:Type} (L V:List α) (a k:Nat) (ha:a+V.length≤L.length):
 (L.take a++V++L.drop (a+V.length))[k]? =if k<a then L[k]? else if k<a+V.length then V[k-a]? else L[k]? :=by
 have hlen:(L.take a).length=a:=by rw [List.length_take];omega
 rw [List.append_assoc];by_cases h1:k<a
 ·rw [List.getElem?_append_left (by omega),if_pos h1,List.getElem?_take,if_pos h1]
 ·rw [List.getElem?_append_right (by omega),if_neg h1,hlen];by_cases h2:k<a+V.length
  ·rw [List.getElem?_append_left (by omega),if_pos h2]
  ·rw [List.getElem?_append_right (by omega),if_neg h2,List.getElem?_drop]
   congr 1;omega
theorem qmi {P:Program} {t:TypeId} {i:TI} (ht:TIOK P t i) {w:World} {b off:Nat} {cur:Array Value} {tid:TypeId} (hh:w.heap[b]? =some (.cells cur tid (0,0))) {v:Value}
 (hsz:v.cells.size=i.size) (hfit:off+i.size≤cur.size) (h1:∀u∈v.cells.toList,u.oneCell'=true):
 (storeVar t ⟨b,off,none⟩ v).run P w= .ok () (w.setRow b (cur.toList.take off++v.cells.toList++cur.toList.drop (off+v.cells.toList.length)).toArray):=by
 unfold storeVar;have hs:=zwy ht w;simp only [Sem.run_bind,hs,Result.andThen_ok,hsz,ne_eq,not_true_eq_false,if_false];have:=run_storeCells_at P b off tid v.cells.toList 0 cur w hh (by simp [hsz];omega) h1
 simpa using this
theorem qdp {F:Nat→Prop} {A:Fr} {w:World}:∀(u:Ty) (x:u.den),∀c∈u.toPC x,Plain F A w c
 | .bool,x,c,hc=>by rw [List.mem_singleton.1 hc];trivial
 | .int _,x,c,hc=>by rw [List.mem_singleton.1 hc];trivial
 | .str,x,c,hc=>by rw [List.mem_singleton.1 hc];trivial
 | .fn,x,c,hc=>by rw [List.mem_singleton.1 hc];trivial
 | .slice _ _,x,c,hc=>by rw [List.mem_singleton.1 hc];trivial
 | .pair a b,x,c,hc=>by
   rcases List.mem_append.1 hc with hc|hc
   ·exact qdp a _ c hc
   ·exact qdp b _ c hc
theorem yix {t:TypeId} {p x:Operand} (hE:zgk X.P X.E) (ho:o.op= .store t p x) (hd:∀d,o.dst=some d→d<X.n) (h:opK X.E run σ o some=some σ'):zbm X o σ σ':=by
 simp only [opK,ho] at h;split at h
 ·rename_i s hs;unfold qmj at h;split at h
  ·cases h
  ·rename_i i hti;have ht:=hE.ti t i hti;split at h
   ·rename_i hlen;split at h
    ·rename_i d off hev;split at h
     ·rename_i tid cs hb;split at h
      ·rename_i hfit;cases h;intro A a w hi hdef next Q hn
       have hx:RP (X.F A) A w _ _:=ziu t (zah hi x);rw [hs] at hx;have hp:=zah hi p;rw [hev] at hp;obtain ⟨b,hbx,he⟩:=hp;obtain ⟨b',vs,hbx',hh,hc⟩:=hi.box d tid cs hb;rw [hbx] at hbx';cases hbx';have hcells:=RS.cells hx;have hvs:(a.eval x).cells.size=i.size:=by have:=hcells.length;simp at this;omega
       have hcl:=hc.length;simp at hcl;have hnew:=hi.xjt (tid:=tid) hbx hh (vs':=(vs.toList.take off++(a.eval x).cells.toList++vs.toList.drop (off+(a.eval x).cells.toList.length)).toArray) (cs':=setCells cs s.cells off) (qgz hc hcells off);refine qwy (w':=_) (by simp only [execOp,ho,Instr.storeAt,Instr.sureAddr,he,Sem.run_bind,Sem.run_pure,Result.andThen_ok];rw [qmi ht hh hvs (by omega) (yse hcells)];rfl) (hn A _ _ (hnew.put hd fun _=>trivial) (by rw [put_defers];exact hdef))
      ·cases h
     ·cases h
    ·rename_i u g n off hev;split at h
     ·rename_i u' e xs hf;split at h
      ·rename_i hfit;obtain ⟨hu,hfit⟩:=hfit;subst hu;split at h
       ·rename_i y hy;cases hm:mem (zdk s.cells) g with
        |true=>simp [hm] at h
        |false=>
         simp only [hm,cond_false,Option.some.injEq] at h;subst h;intro A0 a w hi0 hdef next Q hn
         have hx0:RP (X.F A0) A0 w _ _:=ziu t (zah hi0 x);rw [hs] at hx0;have hp:=zah hi0 p;rw [hev] at hp;obtain ⟨b,cap,cur,htg,he,h0,hlt,hh,h1,h2,h3,h4⟩:=ycv hi0 hf hp;obtain ⟨A',hi,hA',_⟩:=hi0.release (zdk s.cells);have S:Step (X.F A0) (X.F A') w w:=by
          rcases hA' with rfl|rfl
          ·exact Step.refl _ _
          ·exact Step.drop _ _ _ _
         have htg':A'.tg g=some (b,xs.length):=by
          rcases hA' with rfl|rfl
          ·exact htg
          ·simp [Fr.drop,hm,htg]
         have hcells:=RS.cells hx0;have hvs:(a.eval x).cells.toList.length=i.size:=by rw [←hcells.length];exact hlen
         have hc':RCs (X.F A') A0 w s.cells (a.eval x).cells.toList:=hcells.step S fun c _=>(Ext.refl A0 w).stays c
         have hplain:∀c∈s.cells,Plain (X.F A') A0 w c:=fun c hc=>by
          cases c with
          |slice e1 t1 xs1 q=>cases q with
           |own m=>
            intro g1 l1 hg1;have hmem:m∈zdk s.cells:=List.mem_flatMap.2 ⟨_,hc,List.mem_singleton.2 rfl⟩;refine ⟨?_,(hi0.good.tgm m g1 l1 hg1).2⟩;rcases ‹(zdk s.cells=[]∧A'=A0)∨A'=A0.drop (zdk s.cells)› with ⟨hnil,_⟩|rfl
            ·rw [hnil] at hmem;cases hmem
            ·exact hi0.good.notF hg1 hmem
           |_=>trivial
          |_=>trivial
         obtain ⟨ds,hds,hcell⟩:=h4 _ _ (ygd hlt);have hds':=hds.step S;have hdl:=hds.length;have hy':Cl (X.F A') w u y (ds.take off++(a.eval x).cells.toList++ds.drop (off+(a.eval x).cells.toList.length)):=by
          refine RCs.ofPC (A:=A0) hy (fun c hc=> ?_) (qgz hds'.toPC hc' off);simp only [setCells,List.mem_append] at hc;rcases hc with (hc|hc)|hc
          ·exact qdp u _ c (List.mem_of_mem_take hc)
          ·exact hplain c hc
          ·exact qdp u _ c (List.mem_of_mem_drop hc)
         have hpos:=Ty.zpw u;have hmul:(n.toNat+1)*u.sz≤cap*u.sz:=Nat.mul_le_mul_right _ (by omega);rw [Nat.add_mul,Nat.one_mul] at hmul;have hfit':n.toNat*u.sz+off+i.size≤cur.size:=by omega
         have hcurlen:cur.toList.length=cur.size:=by simp
         have hin:=hi.xgl htg' hh h1 h2 h3 (fun k x hk=>by obtain ⟨ds,hd,hc⟩:=h4 k x hk;exact ⟨ds,hd.step S,hc⟩) hlt hy'
          (cur':=(cur.toList.take (n.toNat*u.sz+off)++(a.eval x).cells.toList++cur.toList.drop (n.toNat*u.sz+off+(a.eval x).cells.toList.length)).toArray)
          (by have:=hvs;simp only [List.size_toArray,List.length_append,List.length_take,List.length_drop];omega)
          (fun j z hj=>by
           rw [znf _ _ _ _ (by omega)] at hj;rw [List.getElem?_toArray,znf _ _ _ _ (by rw [hcurlen];omega)];by_cases q1:j<off
           ·rw [if_pos q1] at hj;rw [if_pos (by omega)];simpa using hcell j z hj
           ·rw [if_neg q1] at hj;rw [if_neg (by omega)];by_cases q2:j<off+(a.eval x).cells.toList.length
            ·rw [if_pos q2] at hj;rw [if_pos (by omega),show n.toNat*u.sz+j-(n.toNat*u.sz+off)=j-off by omega];exact hj
            ·rw [if_neg q2] at hj;rw [if_neg (by omega)];simpa using hcell j z hj)
          (fun k hk=>by
           rw [List.getElem?_toArray,znf _ _ _ _ (by rw [hcurlen];omega)];rw [Nat.add_mul,Nat.one_mul] at hk;by_cases q1:k<n.toNat*u.sz+off
           ·rw [if_pos q1];simp
           ·rw [if_neg q1,if_neg (by omega)];simp)
         refine qwy (w':=_) (by simp only [execOp,ho,Instr.storeAt,Instr.sureAddr,he,Sem.run_bind,Sem.run_pure,Result.andThen_ok];rw [qmi ht hh (by simpa using hvs) hfit' (yse hcells)];rfl) (hn A' _ _ (hin.put hd fun _=>trivial) (by rw [put_defers];exact hdef))
       ·cases h
      ·cases h
     ·cases h
    ·cases h
   ·cases h
 ·cases h
end
end Go.Sv
