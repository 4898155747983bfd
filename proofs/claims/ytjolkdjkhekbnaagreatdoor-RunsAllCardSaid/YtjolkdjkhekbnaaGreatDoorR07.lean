/- What the reference's functions of layer 7 compute: in plain words. -/
import Derived.Test.YtjolkdjkhekbnaaGreatDoorM16
set_option linter.unusedVariables false
set_option linter.unusedSimpArgs false
namespace Go.Proofs.YtjolkdjkhekbnaaGreatDoor.Sv
open Go Go.Sv Go.Rd
theorem qqu [Dfr] (x y:Qc) (hx:x.1.1.length≤4611686018427387904∧x.2.1.length≤4611686018427387904) (hy:y.1.1.length≤4611686018427387904∧y.2.1.length≤4611686018427387904):zxg x y=some (ordN (cmpQ x y)):=by
 rw [qmu,zgl _ _ hx.1 hy.1,zgl _ _ hx.2 hy.2];simp only [Option.bind_some];show _=some (ordN (Ordering.then _ _));rw [qrd];by_cases h:ordN (cmpT x.1 y.1)=0
 ·rw [if_pos h,h];rfl
 ·rw [if_neg h,show (ordN (cmpT x.1 y.1)==0)=false by simpa using h];rfl
theorem zmf [Dfr] (a b:List Qc) (ha:a.length≤1000000000) (hb:b.length≤1000000000) (sa:qcu a) (sb:qcu b):∀(n:Nat) (r s:List Qc) (i j:Nat) (acc:List Qc),r.length+s.length≤n→a.drop i=r→b.drop j=s→i≤a.length→j≤b.length→acc.length≤i+j→
 ∃(p:List Qc) (i' j':Nat),zci a b acc (i:Int) (j:Int)=some (0,(a,b,acc++p,(i':Int),(j':Int)))∧i'≤a.length∧j'≤b.length∧acc.length+p.length≤i'+j'∧p++a.drop i'++b.drop j'=zhq cmpQ r s
 |n,[],s,i,j,acc,hn,h,k,hi,hj,hc=>by obtain ⟨h1,h2⟩:=drop_nil h;rw [zne];simp only [h2,cond_false];refine ⟨[],i,j,by simp,hi,hj,by simpa using hc,?_⟩;rw [h,k];cases s<;>simp [zhq]
 |n,x::r,[],i,j,acc,hn,h,k,hi,hj,hc=>by obtain ⟨h1,h2,h3,h4,h5,h6⟩:=zab h;obtain ⟨k1,k2⟩:=drop_nil k;rw [zne];simp only [h2,k2,cond_true,cond_false];refine ⟨[],i,j,by simp,hi,hj,by simpa using hc,?_⟩;rw [h,k];simp [zhq]
 |0,x::r,y::s,i,j,acc,hn,h,k,hi,hj,hc=>by simp at hn
 |n+1,x::r,y::s,i,j,acc,hn,h,k,hi,hj,hc=>by
  obtain ⟨h1,h2,h3,h4,h5,h6⟩:=zab h;obtain ⟨k1,k2,k3,k4,k5,k6⟩:=zab k;have mx:x∈a:=List.mem_of_mem_drop (by rw [h];exact List.mem_cons_self ..);have my:y∈b:=List.mem_of_mem_drop (by rw [k];exact List.mem_cons_self ..);have wi:=zar (show i<9223372036854775807 by omega);have wj:=zar (show j<9223372036854775807 by omega);have rm:=room (show (acc.length+1)*64≤140737488355328 by omega);rw [zne,zhq];simp only [h2,h3,h4,k2,k3,k4,cond_true,cond_false,qqu x y (sa x mx) (sb y my),Option.bind_some,rm,wi,wj];simp only [List.length_cons] at hn;cases hcm:cmpQ x y with
  |lt=>
   obtain ⟨p,i',j',e,g1,g2,g3,g4⟩:=zmf a b ha hb sa sb n r (y::s) (i+1) j (acc++[x]) (by simp only [List.length_cons];omega) h5 k (by omega) hj (by simp;omega);refine ⟨x::p,i',j',?_,g1,g2,by simp at g3 ⊢;omega,?_⟩
   ·rw [List.append_assoc,List.singleton_append] at e;exact e
   ·simp only [List.cons_append];rw [g4]
  |eq=>
   obtain ⟨p,i',j',e,g1,g2,g3,g4⟩:=zmf a b ha hb sa sb n r s (i+1) (j+1) (acc++[x]) (by omega) h5 k5 (by omega) (by omega) (by simp;omega);refine ⟨x::p,i',j',?_,g1,g2,by simp at g3 ⊢;omega,?_⟩
   ·rw [List.append_assoc,List.singleton_append] at e;exact e
   ·simp only [List.cons_append];rw [g4]
  |gt=>
   obtain ⟨p,i',j',e,g1,g2,g3,g4⟩:=zmf a b ha hb sa sb n (x::r) s i (j+1) (acc++[y]) (by simp only [List.length_cons];omega) h k5 hi (by omega) (by simp;omega);refine ⟨y::p,i',j',?_,g1,g2,by simp at g3 ⊢;omega,?_⟩
   ·rw [List.append_assoc,List.singleton_append] at e;exact e
   ·simp only [List.cons_append];rw [g4]
theorem yab [Dfr] (a b:List Qc) (ha:a.length≤1000000000) (hb:b.length≤1000000000) (sa:qcu a) (sb:qcu b):qeo a b=some (zhq cmpQ a b):=by obtain ⟨p,i,j,e,g1,g2,g3,g4⟩:=zmf a b ha hb sa sb (a.length+b.length) a b 0 0 [] (Nat.le_refl _) rfl rfl (by omega) (by omega) (by simp);rw [Int.natCast_zero] at e;simp only [List.length_nil,Nat.zero_add] at g3;rw [qug,e];simp only [Option.bind_some,List.nil_append,zep g1 (Nat.le_refl _),zep g2 (Nat.le_refl _),qbd,cond_true,List.length_append,List.length_drop];rw [room (show (p.length+(a.length-i))*64≤140737488355328 by omega),cond_true,room (show (p.length+(a.length-i)+(b.length-j))*64≤140737488355328 by omega),cond_true,g4]
theorem qlb [Dfr] {l:List Qc} (h:qcu l):qcu (canon cmpQ l):=fun x hx=>h x ((zaz ordQ).1 hx)
theorem zhc [Dfr]:∀(n:Nat) (l:List Qc),l.length≤n→l.length≤1000000000→qcu l→zis l=some (canon cmpQ l)
 |0,l,hn,hl,hs=>by have:l=[]:=List.length_eq_zero_iff.1 (by omega);subst this;rw [qlr];rfl
 |n+1,l,hn,hl,hs=>by
  rw [qlr];by_cases h2:l.length<2
  ·rw [decide_eq_true (show (l.length:Int)<2 by omega),cond_true]
   match l,h2 with
   |[],_=>rfl
   |[x],_=>rfl
  ·rw [decide_eq_false (show ¬(l.length:Int)<2 by omega),cond_false];have hd:w64 ((l.length:Int).tdiv 2)=((l.length/2:Nat):Int):=by rw [Int.tdiv_eq_ediv_of_nonneg (by omega)];exact zfi (by omega) (by omega)
   rw [hd,qwz (show l.length/2≤l.length by omega),cond_true,ymy,qbd,zep (show l.length/2≤l.length by omega) (Nat.le_refl _)];simp only [cond_true];have h3:(l.take (l.length/2)).length≤n:=by rw [List.length_take];omega
   have h4:(l.drop (l.length/2)).length≤n:=by rw [List.length_drop];omega
   have s3:qcu (l.take (l.length/2)):=fun x hx=>hs x (List.mem_of_mem_take hx)
   have s4:qcu (l.drop (l.length/2)):=fun x hx=>hs x (List.mem_of_mem_drop hx)
   have l3:=zai (c:=cmpQ) (l.take (l.length/2));have l4:=zai (c:=cmpQ) (l.drop (l.length/2));rw [List.length_take] at l3;rw [List.length_drop] at l4;rw [zhc n _ h3 (by rw [List.length_take];omega) s3,Option.bind_some,zhc n _ h4 (by rw [List.length_drop];omega) s4,Option.bind_some,
    yab _ _ (by omega) (by omega) (qlb s3) (qlb s4),Option.bind_some,qmc ordQ,List.take_append_drop]
theorem qde [Dfr] (p q:Tc) (h:p.1.length+q.1.length≤19):zol p q=some (behT p q):=by rw [qqt,qey _ _ (by omega)];rfl
def twoF (k:Int) (p q:Tc):List Tc:=if k=5 then [zek p q] else if k=7 then parE (bs p.2 q.2) p.1 q.1 else [qcn p q]
theorem qhc [Dfr] (k:Int) (A B:List Tc) (hA:A.length≤1000000000) (hB:B.length≤1000000000) (i:Nat) (a:Tc) (ra:List Tc) (hi:A.drop i=a::ra) (hs:∀b∈B,a.1.length+b.1.length≤19):∀(r:List Tc) (j:Nat) (acc:List Tc),B.drop j=r→acc.length+(r.flatMap (twoF k a)).length≤1000000000→
 zir k A B acc (i:Int) (j:Int)=some (0,(k,A,B,acc++r.flatMap (twoF k a),(i:Int)))
 |[],j,acc,h,hl=>by obtain ⟨h1,h2⟩:=drop_nil h;rw [zzr];simp only [h2,cond_false,List.flatMap_nil,List.append_nil]
 |b::r,j,acc,h,hl=>by
  obtain ⟨g1,g2,g3,g4,g5,g6⟩:=zab hi;obtain ⟨h1,h2,h3,h4,h5,h6⟩:=zab h;have hm:=hs b (List.mem_of_mem_drop (by rw [h];exact List.mem_cons_self ..));have hw:=zar (show j<9223372036854775807 by omega);simp only [List.flatMap_cons,List.length_append] at hl;have ih:=qhc k A B hA hB i a ra hi hs r (j+1) (acc++twoF k a b) h5 (by rw [List.length_append];omega);rw [List.append_assoc] at ih;rw [zzr];simp only [h2,h3,h4,g3,g4,cond_true,hw,List.flatMap_cons];rw [←ih];unfold twoF at hl ⊢;by_cases e5:k=5
  ·simp only [if_pos e5,List.length_singleton] at hl ⊢;rw [show (k==5)=true by simp [e5]];simp only [cond_true,zss a b (by omega),Option.bind_some,room (show (acc.length+1)*32≤140737488355328 by omega)]
  ·simp only [if_neg e5] at hl ⊢;rw [show (k==5)=false by simpa using e5];by_cases e7:k=7
   ·simp only [if_pos e7] at hl ⊢;rw [show (k==7)=true by simp [e7]];simp only [cond_true,cond_false,qex a b hm,Option.bind_some,room (show (acc.length+(parE (bs a.2 b.2) a.1 b.1).length)*32≤140737488355328 by omega)]
   ·simp only [if_neg e7,List.length_singleton] at hl ⊢;rw [show (k==7)=false by simpa using e7];unfold qcn;by_cases e2:a.2=2
    ·rw [show (a.2==2)=true by simp [e2],if_pos e2];simp only [cond_true,cond_false,qde a b hm,Option.bind_some,room (show (acc.length+1)*32≤140737488355328 by omega)]
    ·rw [show (a.2==2)=false by simpa using e2,if_neg e2];simp only [cond_true,cond_false,room (show (acc.length+1)*32≤140737488355328 by omega)]
theorem qhd [Dfr] (k:Int) (A B:List Tc) (hA:A.length≤1000000000) (hB:B.length≤1000000000) (hs:∀a∈A,∀b∈B,a.1.length+b.1.length≤19):∀(r:List Tc) (i:Nat) (acc:List Tc),A.drop i=r→acc.length+(zfc r B (twoF k)).length≤1000000000→
 zsl k A B acc (i:Int)=some (0,acc++zfc r B (twoF k))
 |[],i,acc,h,hl=>by obtain ⟨h1,h2⟩:=drop_nil h;rw [zzs];simp only [h2,cond_false,zfc,List.flatMap_nil,List.append_nil]
 |a::r,i,acc,h,hl=>by obtain ⟨h1,h2,h3,h4,h5,h6⟩:=zab h;have hm:a∈A:=List.mem_of_mem_drop (by rw [h];exact List.mem_cons_self ..);have hc:zfc (a::r) B (twoF k)=B.flatMap (twoF k a)++zfc r B (twoF k):=rfl;rw [hc,List.length_append] at hl;have e:=qhc k A B hA hB i a r h (hs a hm) B 0 acc rfl (by omega);rw [Int.natCast_zero] at e;rw [zzs];simp only [h2,cond_true,e,Option.bind_some,zar (show i<9223372036854775807 by omega)];rw [qhd k A B hA hB hs r (i+1) (acc++B.flatMap (twoF k a)) h5 (by rw [List.length_append];omega),hc,List.append_assoc]
theorem qem [Dfr] (k:Int) (hk:k≠6) (A B:List Tc) (hA:A.length≤1000000000) (hB:B.length≤1000000000) (hs:∀a∈A,∀b∈B,a.1.length+b.1.length≤19) (hl:(zfc A B (twoF k)).length≤1000000000):qhe k A B=some (zfc A B (twoF k)):=by have e:=qhd k A B hA hB hs A 0 [] rfl (by simpa using hl);rw [Int.natCast_zero] at e;rw [qlq,e,show (k==6)=false by simpa using hk];rfl
theorem qzz [Dfr] (A B:List Tc) (h:A.length+B.length≤1000000000):qhe 6 A B=some (A++B):=by rw [qlq];simp only [List.nil_append,room (show (0+A.length)*32≤140737488355328 by omega),room (show (A.length+B.length)*32≤140737488355328 by omega)];rfl
theorem zmg [Dfr] (Q:List Qc) (hQ:Q.length≤1000000000) (hs:∀x∈Q,x.1.1.length+x.2.1.length≤19):∀(r:List Qc) (i:Nat) (acc:List Tc),Q.drop i=r→acc.length≤i→zft Q acc (i:Int)=some (0,acc++r.flatMap blkF)
 |[],i,acc,h,ha=>by obtain ⟨h1,h2⟩:=drop_nil h;rw [zvk];simp only [h2,cond_false,List.flatMap_nil,List.append_nil]
 |x::r,i,acc,h,ha=>by
  obtain ⟨h1,h2,h3,h4,h5,h6⟩:=zab h;have hm:=hs x (List.mem_of_mem_drop (by rw [h];exact List.mem_cons_self ..));have hw:=zar (show i<9223372036854775807 by omega);rw [zvk];simp only [h2,h3,h4,cond_true,qde x.1 x.2 hm,Option.bind_some,room (show (acc.length+1)*32≤140737488355328 by omega),hw,List.flatMap_cons];unfold blkF;by_cases e1:x.1.2=1
  ·have e2:(x.1.2==2)=false:=by rw [e1];rfl
   rw [show (x.1.2==1)=true by simp [e1],e2,if_pos e1,cond_true,cond_false,zmg Q hQ hs r (i+1) _ h5 (by simp;omega),List.append_assoc];rfl
  ·rw [show (x.1.2==1)=false by simpa using e1,if_neg e1,cond_false];by_cases e2:x.1.2=2
   ·rw [show (x.1.2==2)=true by simp [e2],if_pos e2,cond_true,zmg Q hQ hs r (i+1) _ h5 (by simp;omega),List.append_assoc];rfl
   ·rw [show (x.1.2==2)=false by simpa using e2,if_neg e2,cond_false,zmg Q hQ hs r (i+1) _ h5 (by omega)];rfl
theorem yac [Dfr] (Q:List Qc) (hQ:Q.length≤1000000000) (hs:∀x∈Q,x.1.1.length+x.2.1.length≤19):qep Q=some (Q.flatMap blkF):=by have e:=zmg Q hQ hs Q 0 [] rfl (by simp);rw [Int.natCast_zero] at e;rw [qui,e];rfl
def goR (A B:List Tc):List Qc:=A.flatMap fun x=>if x.2≠1 then [(x,([],1))] else B.map fun y=>(x,y)
theorem yay [Dfr] {A B:List Tc} (hB:∃y,y∈B) {z:Qc}:z∈goR A B↔z∈zjg A B goF:=by
 unfold goR;rw [List.mem_flatMap,zei];obtain ⟨y0,hy0⟩:=hB;constructor
 ·rintro ⟨x,hx,hz⟩;by_cases h1:x.2=1
  ·rw [if_neg (by simpa using h1)] at hz;obtain ⟨y,hy,rfl⟩:=List.mem_map.1 hz;exact ⟨x,hx,y,hy,by unfold goF;rw [if_pos h1]⟩
  ·rw [if_pos h1] at hz;exact ⟨x,hx,y0,hy0,by unfold goF;rw [if_neg h1];exact List.mem_singleton.1 hz⟩
 ·rintro ⟨x,hx,y,hy,rfl⟩;refine ⟨x,hx,?_⟩;unfold goF;by_cases h1:x.2=1
  ·rw [if_neg (by simpa using h1),if_pos h1];exact List.mem_map.2 ⟨y,hy,rfl⟩
  ·rw [if_pos h1,if_neg h1];exact List.mem_singleton.2 rfl
theorem yuu [Dfr] {A B:List Tc} (hB:∃y,y∈B):(goR A B).length≤A.length*B.length:=by
 obtain ⟨y0,hy0⟩:=hB;have:=List.length_pos_of_mem hy0;refine zfx fun a ha=> ?_
 split
 ·simp;omega
 ·rw [List.length_map];exact Nat.le_refl _
theorem qab [Dfr] (A B:List Tc) (hA:A.length≤1000000000) (hB:B.length≤1000000000) (i:Nat) (a:Tc) (ra:List Tc) (hi:A.drop i=a::ra):∀(r:List Tc) (j:Nat) (acc:List Qc),B.drop j=r→acc.length+r.length≤1000000000→
 znu A B acc (i:Int) (j:Int)=some (0,(A,B,acc++r.map fun y=>(a,y),(i:Int)))
 |[],j,acc,h,hl=>by obtain ⟨h1,h2⟩:=drop_nil h;rw [zvi];simp only [h2,cond_false,List.map_nil,List.append_nil]
 |b::r,j,acc,h,hl=>by obtain ⟨g1,g2,g3,g4,g5,g6⟩:=zab hi;obtain ⟨h1,h2,h3,h4,h5,h6⟩:=zab h;simp only [List.length_cons] at hl;rw [zvi];simp only [h2,h3,h4,g3,g4,cond_true,zar (show j<9223372036854775807 by omega),room (show (acc.length+1)*64≤140737488355328 by omega)];rw [qab A B hA hB i a ra hi r (j+1) (acc++[(a,b)]) h5 (by simp;omega),List.append_assoc];rfl
theorem zre [Dfr] (A B:List Tc) (hA:A.length≤1000000000) (hB:B.length≤1000000000):∀(r:List Tc) (i:Nat) (acc:List Qc),A.drop i=r→acc.length+(goR r B).length≤1000000000→
 zki A B acc (i:Int)=some (0,acc++goR r B)
 |[],i,acc,h,hl=>by obtain ⟨h1,h2⟩:=drop_nil h;rw [zvj];simp only [h2,cond_false,goR,List.flatMap_nil,List.append_nil]
 |a::r,i,acc,h,hl=>by
  obtain ⟨h1,h2,h3,h4,h5,h6⟩:=zab h;have hc:goR (a::r) B=(if a.2≠1 then [(a,([],1))] else B.map fun y=>(a,y))++goR r B:=rfl;rw [hc,List.length_append] at hl;rw [zvj,hc];simp only [h2,h3,h4,cond_true,zhd,Option.bind_some,zar (show i<9223372036854775807 by omega)];by_cases e1:a.2=1
  ·rw [if_neg (by simpa using e1),List.length_map] at hl;have e:=qab A B hA hB i a r h B 0 acc rfl (by omega);rw [Int.natCast_zero] at e;rw [show (a.2 != 1)=false by simp [e1],if_neg (by simpa using e1)];simp only [cond_false,e,Option.bind_some,zar (show i<9223372036854775807 by omega)];rw [zre A B hA hB r (i+1) _ h5 (by rw [List.length_append,List.length_map];omega),List.append_assoc]
  ·rw [if_pos e1,List.length_singleton] at hl;rw [show (a.2 != 1)=true by simpa using e1,if_pos e1];simp only [cond_true,room (show (acc.length+1)*64≤140737488355328 by omega)];rw [zre A B hA hB r (i+1) _ h5 (by rw [List.length_append,List.length_singleton];omega),List.append_assoc]
theorem qhk [Dfr] (A B:List Tc) (hA:A.length≤1000000000) (hB:B.length≤1000000000) (hl:(goR A B).length≤1000000000):zxf A B=some (goR A B):=by have e:=zre A B hA hB A 0 [] rfl (by simpa using hl);rw [Int.natCast_zero] at e;rw [quh,e];rfl
def seqR (A B:List Qc):List Qc:=A.flatMap fun a=>if a.1.2≠1 then [a] else B.map fun b=>(zek a.1 b.1,zek b.2 a.2)
theorem ymd [Dfr] {A B:List Qc} (hB:∃y,y∈B) {z:Qc}:z∈seqR A B↔z∈zjg A B seqF:=by
 unfold seqR;rw [List.mem_flatMap,zei];obtain ⟨y0,hy0⟩:=hB;constructor
 ·rintro ⟨x,hx,hz⟩;by_cases h1:x.1.2=1
  ·rw [if_neg (by simpa using h1)] at hz;obtain ⟨y,hy,rfl⟩:=List.mem_map.1 hz;exact ⟨x,hx,y,hy,by unfold seqF;rw [if_pos h1]⟩
  ·rw [if_pos h1] at hz;exact ⟨x,hx,y0,hy0,by unfold seqF;rw [if_neg h1];exact List.mem_singleton.1 hz⟩
 ·rintro ⟨x,hx,y,hy,rfl⟩;refine ⟨x,hx,?_⟩;unfold seqF;by_cases h1:x.1.2=1
  ·rw [if_neg (by simpa using h1),if_pos h1];exact List.mem_map.2 ⟨y,hy,rfl⟩
  ·rw [if_pos h1,if_neg h1];exact List.mem_singleton.2 rfl
theorem xbg [Dfr] {A B:List Qc} (hB:∃y,y∈B):(seqR A B).length≤A.length*B.length:=by
 obtain ⟨y0,hy0⟩:=hB;have:=List.length_pos_of_mem hy0;refine zfx fun a ha=> ?_
 split
 ·simp;omega
 ·rw [List.length_map];exact Nat.le_refl _
theorem qhf [Dfr] (A B:List Qc) (hA:A.length≤1000000000) (hB:B.length≤1000000000) (i:Nat) (a:Qc) (ra:List Qc) (hi:A.drop i=a::ra) (hs:∀b∈B,a.1.1.length+b.1.1.length≤19∧a.2.1.length+b.2.1.length≤19):∀(r:List Qc) (j:Nat) (acc:List Qc),B.drop j=r→acc.length+r.length≤1000000000→
 zsm A B acc (i:Int) (j:Int)=some (0,(A,B,acc++r.map fun b=>(zek a.1 b.1,zek b.2 a.2),(i:Int)))
 |[],j,acc,h,hl=>by obtain ⟨h1,h2⟩:=drop_nil h;rw [zzv];simp only [h2,cond_false,List.map_nil,List.append_nil]
 |b::r,j,acc,h,hl=>by obtain ⟨g1,g2,g3,g4,g5,g6⟩:=zab hi;obtain ⟨h1,h2,h3,h4,h5,h6⟩:=zab h;have hm:=hs b (List.mem_of_mem_drop (by rw [h];exact List.mem_cons_self ..));simp only [List.length_cons] at hl;rw [zzv];simp only [h2,h3,h4,g3,g4,cond_true,zss a.1 b.1 (by omega),zss b.2 a.2 (by omega),Option.bind_some,zar (show j<9223372036854775807 by omega),room (show (acc.length+1)*64≤140737488355328 by omega)];rw [qhf A B hA hB i a ra hi hs r (j+1) _ h5 (by simp;omega),List.append_assoc];rfl
theorem zxe [Dfr] (A B:List Qc) (hA:A.length≤1000000000) (hB:B.length≤1000000000) (hs:∀a∈A,∀b∈B,a.1.1.length+b.1.1.length≤19∧a.2.1.length+b.2.1.length≤19):∀(r:List Qc) (i:Nat) (acc:List Qc),A.drop i=r→acc.length+(seqR r B).length≤1000000000→
 zok A B acc (i:Int)=some (0,acc++seqR r B)
 |[],i,acc,h,hl=>by obtain ⟨h1,h2⟩:=drop_nil h;rw [zzw];simp only [h2,cond_false,seqR,List.flatMap_nil,List.append_nil]
 |a::r,i,acc,h,hl=>by
  obtain ⟨h1,h2,h3,h4,h5,h6⟩:=zab h;have hm:a∈A:=List.mem_of_mem_drop (by rw [h];exact List.mem_cons_self ..);have hc:seqR (a::r) B=(if a.1.2≠1 then [a] else B.map fun b=>(zek a.1 b.1,zek b.2 a.2))++seqR r B:=rfl;rw [hc,List.length_append] at hl;rw [zzw,hc];simp only [h2,h3,h4,cond_true,zar (show i<9223372036854775807 by omega)];by_cases e1:a.1.2=1
  ·rw [if_neg (by simpa using e1),List.length_map] at hl;have e:=qhf A B hA hB i a r h (hs a hm) B 0 acc rfl (by omega);rw [Int.natCast_zero] at e;rw [show (a.1.2 != 1)=false by simp [e1],if_neg (by simpa using e1)];simp only [cond_false,e,Option.bind_some,zar (show i<9223372036854775807 by omega)];rw [zxe A B hA hB hs r (i+1) _ h5 (by rw [List.length_append,List.length_map];omega),List.append_assoc]
  ·rw [if_pos e1,List.length_singleton] at hl;rw [show (a.1.2 != 1)=true by simpa using e1,if_pos e1];simp only [cond_true,room (show (acc.length+1)*64≤140737488355328 by omega)];rw [zxe A B hA hB hs r (i+1) _ h5 (by rw [List.length_append,List.length_singleton];omega),List.append_assoc]
theorem yil [Dfr] (A B:List Qc) (hA:A.length≤1000000000) (hB:B.length≤1000000000) (hs:∀a∈A,∀b∈B,a.1.1.length+b.1.1.length≤19∧a.2.1.length+b.2.1.length≤19) (hl:(seqR A B).length≤1000000000):qqq A B=some (seqR A B):=by have e:=zxe A B hA hB hs A 0 [] rfl (by simpa using hl);rw [Int.natCast_zero] at e;rw [yee,e];rfl
theorem qhg [Dfr] (A B acc0:List Qc) (i j:Int) (X Y:List Tc) (hX:X.length≤1000000000) (hY:Y.length≤1000000000) (u:Nat) (x:Tc) (rx:List Tc) (hu:X.drop u=x::rx):∀(r:List Tc) (v:Nat) (acc:List Qc),Y.drop v=r→acc.length+r.length≤1000000000→
 zsn A B acc i j X Y (u:Int) (v:Int)=some (0,(A,B,acc++r.map fun y=>(x,y),i,j,X,Y,(u:Int)))
 |[],v,acc,h,hl=>by obtain ⟨h1,h2⟩:=drop_nil h;rw [zzx];simp only [h2,cond_false,List.map_nil,List.append_nil]
 |y::r,v,acc,h,hl=>by obtain ⟨g1,g2,g3,g4,g5,g6⟩:=zab hu;obtain ⟨h1,h2,h3,h4,h5,h6⟩:=zab h;simp only [List.length_cons] at hl;rw [zzx];simp only [h2,h3,h4,g3,g4,cond_true,zar (show v<9223372036854775807 by omega),room (show (acc.length+1)*64≤140737488355328 by omega)];rw [qhg A B acc0 i j X Y hX hY u x rx hu r (v+1) _ h5 (by simp;omega),List.append_assoc];rfl
theorem qhh [Dfr] (A B:List Qc) (i j:Int) (X Y:List Tc) (hX:X.length≤1000000000) (hY:Y.length≤1000000000):∀(r:List Tc) (u:Nat) (acc:List Qc),X.drop u=r→acc.length+(r.flatMap fun x=>Y.map fun y=>(x,y)).length≤1000000000→
 zso A B acc i j X Y (u:Int)=some (0,(A,B,acc++(r.flatMap fun x=>Y.map fun y=>(x,y)),i,j))
 |[],u,acc,h,hl=>by obtain ⟨h1,h2⟩:=drop_nil h;rw [zzy];simp only [h2,cond_false,List.flatMap_nil,List.append_nil]
 |x::r,u,acc,h,hl=>by obtain ⟨h1,h2,h3,h4,h5,h6⟩:=zab h;simp only [List.flatMap_cons,List.length_append,List.length_map] at hl;have e:=qhg A B [] i j X Y hX hY u x r h Y 0 acc rfl (by omega);rw [Int.natCast_zero] at e;rw [zzy];simp only [h2,cond_true,e,Option.bind_some,zar (show u<9223372036854775807 by omega)];rw [qhh A B i j X Y hX hY r (u+1) _ h5 (by rw [List.length_append,List.length_map];omega),List.flatMap_cons,List.append_assoc]
theorem qhi [Dfr] (A B:List Qc) (hA:A.length≤1000000000) (hB:B.length≤1000000000) (i:Nat) (a:Qc) (ra:List Qc) (hi:A.drop i=a::ra) (hs:∀b∈B,a.1.1.length+b.1.1.length≤19∧a.2.1.length+b.2.1.length≤19):∀(r:List Qc) (j:Nat) (acc:List Qc),B.drop j=r→acc.length+(r.flatMap (parF a)).length≤1000000000→
 zsp A B acc (i:Int) (j:Int)=some (0,(A,B,acc++r.flatMap (parF a),(i:Int)))
 |[],j,acc,h,hl=>by obtain ⟨h1,h2⟩:=drop_nil h;rw [zzz];simp only [h2,cond_false,List.flatMap_nil,List.append_nil]
 |b::r,j,acc,h,hl=>by
  obtain ⟨g1,g2,g3,g4,g5,g6⟩:=zab hi;obtain ⟨h1,h2,h3,h4,h5,h6⟩:=zab h;have hm:=hs b (List.mem_of_mem_drop (by rw [h];exact List.mem_cons_self ..));simp only [List.flatMap_cons,List.length_append] at hl;have hlen:∀(e:Int) (p q:List ByteArray),p.length+q.length≤19→(parE e p q).length≤1000000000:=fun e p q h=>by have:=qva (a:=p) (b:=q) h;unfold parE;rw [List.length_map];omega
  have e:=qhh A B (i:Int) (j:Int) (parE (bs a.1.2 b.1.2) a.1.1 b.1.1) (parE (bs a.2.2 b.2.2) a.2.1 b.2.1) (hlen _ _ _ hm.1) (hlen _ _ _ hm.2) (parE (bs a.1.2 b.1.2) a.1.1 b.1.1) 0 acc rfl (by show acc.length+(parF a b).length≤_;omega);rw [Int.natCast_zero] at e;rw [zzz];simp only [h2,h3,h4,g3,g4,cond_true,qex a.1 b.1 hm.1,qex a.2 b.2 hm.2,e,Option.bind_some,zar (show j<9223372036854775807 by omega)];have ef:((parE (bs a.1.2 b.1.2) a.1.1 b.1.1).flatMap fun x=>(parE (bs a.2.2 b.2.2) a.2.1 b.2.1).map fun y=>(x,y))=parF a b:=rfl;rw [ef,qhi A B hA hB i a ra hi hs r (j+1) _ h5 (by rw [List.length_append];omega),List.flatMap_cons,List.append_assoc]
theorem qhj [Dfr] (A B:List Qc) (hA:A.length≤1000000000) (hB:B.length≤1000000000) (hs:∀a∈A,∀b∈B,a.1.1.length+b.1.1.length≤19∧a.2.1.length+b.2.1.length≤19):∀(r:List Qc) (i:Nat) (acc:List Qc),A.drop i=r→acc.length+(zfc r B parF).length≤1000000000→
 zsq A B acc (i:Int)=some (0,acc++zfc r B parF)
 |[],i,acc,h,hl=>by obtain ⟨h1,h2⟩:=drop_nil h;rw [qaa];simp only [h2,cond_false,zfc,List.flatMap_nil,List.append_nil]
 |a::r,i,acc,h,hl=>by obtain ⟨h1,h2,h3,h4,h5,h6⟩:=zab h;have hm:a∈A:=List.mem_of_mem_drop (by rw [h];exact List.mem_cons_self ..);have hc:zfc (a::r) B parF=B.flatMap (parF a)++zfc r B parF:=rfl;rw [hc,List.length_append] at hl;have e:=qhi A B hA hB i a r h (hs a hm) B 0 acc rfl (by omega);rw [Int.natCast_zero] at e;rw [qaa];simp only [h2,cond_true,e,Option.bind_some,zar (show i<9223372036854775807 by omega)];rw [qhj A B hA hB hs r (i+1) _ h5 (by rw [List.length_append];omega),hc,List.append_assoc]
theorem yim [Dfr] (A B:List Qc) (hA:A.length≤1000000000) (hB:B.length≤1000000000) (hs:∀a∈A,∀b∈B,a.1.1.length+b.1.1.length≤19∧a.2.1.length+b.2.1.length≤19) (hl:(zfc A B parF).length≤1000000000):qqr A B=some (zfc A B parF):=by have e:=qhj A B hA hB hs A 0 [] rfl (by simpa using hl);rw [Int.natCast_zero] at e;rw [yef,e];rfl
theorem zzt [Dfr] (A:List Qc) (C:List Tc) (hA:A.length≤1000000000) (hC:C.length≤1000000000) (i:Nat) (a:Qc) (ra:List Qc) (hi:A.drop i=a::ra) (hs:∀c∈C,a.2.1.length+c.1.length≤19):∀(r:List Tc) (j:Nat) (acc:List Qc),C.drop j=r→acc.length+r.length≤1000000000→
 zns A C acc (i:Int) (j:Int)=some (0,(A,C,acc++r.flatMap (fun c=>[(a.1,zek a.2 c)]),(i:Int)))
 |[],j,acc,h,hl=>by obtain ⟨h1,h2⟩:=drop_nil h;rw [zvg];simp only [h2,cond_false,List.flatMap_nil,List.append_nil]
 |b::r,j,acc,h,hl=>by obtain ⟨g1,g2,g3,g4,g5,g6⟩:=zab hi;obtain ⟨h1,h2,h3,h4,h5,h6⟩:=zab h;have hm:=hs b (List.mem_of_mem_drop (by rw [h];exact List.mem_cons_self ..));simp only [List.length_cons] at hl;rw [zvg];simp only [h2,h3,h4,g3,g4,cond_true,zss a.2 b (by omega),Option.bind_some,zar (show j<9223372036854775807 by omega),room (show (acc.length+1)*64≤140737488355328 by omega)];rw [zzt A C hA hC i a ra hi hs r (j+1) _ h5 (by simp;omega),List.append_assoc];rfl
theorem zzu [Dfr] (A:List Qc) (C:List Tc) (hA:A.length≤1000000000) (hC:C.length≤1000000000) (hs:∀a∈A,∀c∈C,a.2.1.length+c.1.length≤19):∀(r:List Qc) (i:Nat) (acc:List Qc),A.drop i=r→acc.length+r.length*C.length≤1000000000→
 znt A C acc (i:Int)=some (0,acc++zjg r C fun x q=>(x.1,zek x.2 q))
 |[],i,acc,h,hl=>by obtain ⟨h1,h2⟩:=drop_nil h;rw [zvh];simp only [h2,cond_false,zjg,zfc,List.flatMap_nil,List.append_nil]
 |a::r,i,acc,h,hl=>by
  obtain ⟨h1,h2,h3,h4,h5,h6⟩:=zab h;have hm:a∈A:=List.mem_of_mem_drop (by rw [h];exact List.mem_cons_self ..);have hc:zjg (a::r) C (fun x q=>(x.1,zek x.2 q))=C.flatMap (fun c=>[(a.1,zek a.2 c)])++zjg r C fun x q=>(x.1,zek x.2 q):=rfl
  have hcl:(C.flatMap (fun c=>[(a.1,zek a.2 c)])).length≤C.length:=by
   have:=zfx (f:=fun c:Tc=>[(a.1,zek a.2 c)]) (k:=1) (A:=C) fun _ _=>by simp
   omega
  rw [List.length_cons,Nat.add_mul,Nat.one_mul] at hl;have e:=zzt A C hA hC i a r h (hs a hm) C 0 acc rfl (by omega);rw [Int.natCast_zero] at e;rw [zvh];simp only [h2,cond_true,e,Option.bind_some,zar (show i<9223372036854775807 by omega)];rw [zzu A C hA hC hs r (i+1) _ h5 (by rw [List.length_append];omega),hc,List.append_assoc]
theorem yaa [Dfr] (A:List Qc) (C:List Tc) (hA:A.length≤1000000000) (hC:C.length≤1000000000) (hs:∀a∈A,∀c∈C,a.2.1.length+c.1.length≤19) (hl:A.length*C.length≤1000000000):qen A C=some (zjg A C fun x q=>(x.1,zek x.2 q)):=by have e:=zzu A C hA hC hs A 0 [] rfl (by simpa using hl);rw [Int.natCast_zero] at e;rw [quf,e];rfl
theorem qhl [Dfr] (s:Int) (C:List Tc) (hC:C.length≤1000000000):∀(r:List Tc) (i:Nat) (acc:List Qc),C.drop i=r→acc.length≤i→zsr s C acc (i:Int)=some (0,acc++r.map fun q=>(([],s),q))
 |[],i,acc,h,ha=>by obtain ⟨h1,h2⟩:=drop_nil h;rw [qac];simp only [h2,cond_false,List.map_nil,List.append_nil]
 |x::r,i,acc,h,ha=>by obtain ⟨h1,h2,h3,h4,h5,h6⟩:=zab h;rw [qac];simp only [h2,h3,h4,cond_true,zhd,Option.bind_some,room (show (acc.length+1)*64≤140737488355328 by omega),zar (show i<9223372036854775807 by omega),List.map_cons];rw [qhl s C hC r (i+1) _ h5 (by simp;omega),List.append_assoc];rfl
theorem yin [Dfr] (s:Int) (C:List Tc) (hC:C.length≤1000000000):qqs s C=some (C.map fun q=>(([],s),q)):=by have e:=qhl s C hC C 0 [] rfl (by simp);rw [Int.natCast_zero] at e;rw [yeg,e];rfl
theorem qkl [Dfr] (A B:List Tc):zfc A B (twoF 5)=zjg A B zek:=rfl
theorem qkk [Dfr] (A B:List Tc):zfc A B (twoF 7)=zfc A B fun p q=>parE (bs p.2 q.2) p.1 q.1:=rfl
theorem qkj [Dfr] (A B:List Tc):zfc A B (twoF 8)=zjg A B qcn:=rfl
theorem zrb [Dfr]:∀m:Tm,m.small→(m.po=true→zcg m.row=some m.tr)∧(m.qo=true→zfv m.row=some m.pq)
 | .act s,h=>⟨fun _=>by have hk:=zzn (.act s) rfl (zlw h);have hx:ix (Tm.act s).row 0=(1,s,0):=rfl;have hi:zaa 0 (Tm.act s).row.length=true:=rfl;rw [zcj,hk];simp only [Option.bind_some,hx,hi,cond_true];rfl,fun h=>by simp [Tm.qo] at h⟩
 | .skip,h=>⟨fun _=>by have hk:=zzn .skip rfl (zlw h);have hx:ix Tm.skip.row 0=nd 2:=rfl;have hi:zaa 0 Tm.skip.row.length=true:=rfl;rw [zcj,hk];simp only [Option.bind_some,hx,hi,cond_true,zhd];rfl,fun h=>by simp [Tm.qo] at h⟩
 | .throw,h=>⟨fun _=>by have hk:=zzn .throw rfl (zlw h);have hx:ix Tm.throw.row 0=nd 3:=rfl;have hi:zaa 0 Tm.throw.row.length=true:=rfl;rw [zcj,hk];simp only [Option.bind_some,hx,hi,cond_true,zhd];rfl,fun h=>by simp [Tm.qo] at h⟩
 | .yield,h=>⟨fun _=>by have hk:=zzn .yield rfl (zlw h);have hx:ix Tm.yield.row 0=nd 4:=rfl;have hi:zaa 0 Tm.yield.row.length=true:=rfl;rw [zcj,hk];simp only [Option.bind_some,hx,hi,cond_true,zhd];rfl,fun h=>by simp [Tm.qo] at h⟩
 | .over s,h=>⟨fun _=>by have hk:=zzn (.over s) rfl (zlw h);have hx:ix (Tm.over s).row 0=(11,ByteArray.empty,s):=rfl;have hi:zaa 0 (Tm.over s).row.length=true:=rfl;rw [zcj,hk];simp only [Option.bind_some,hx,hi,cond_true,zhd];rfl,fun h=>by simp [Tm.qo] at h⟩
 | .seq a b,h=>by
   obtain ⟨ha,hb⟩:=sm2 h (Tm.zau a b) rfl;have hk:=zra (.seq a b) rfl (zlw h);have hx:ix (Tm.seq a b).row 0=nd 5:=rfl;have hi:zaa 0 (Tm.seq a b).row.length=true:=zam (by rw [Tm.zac];exact Tm.zda _);have i0:ix [a.row,b.row] 0=a.row:=rfl;have i1:ix [a.row,b.row] 1=b.row:=rfl;have j0:zaa 0 [a.row,b.row].length=true:=rfl;have j1:zaa 1 [a.row,b.row].length=true:=rfl;have hbig:=qky h;refine ⟨fun ho=> ?_,fun ho=> ?_⟩
   ·simp only [Tm.po,Bool.and_eq_true] at ho;have ea:=(zrb a ha).1 ho.1;have eb:=(zrb b hb).1 (Tm.zbv ho.2);have hl:=Tm.zon (f:=zek) (Tm.zbe a).1 (Tm.zbe b).1 (m:=.seq a b) rfl (Nat.le_refl _);have ec:=qem 5 (by decide) a.tr b.tr (by have:=(zii ha).1;omega) (by have:=(zii hb).1;omega) (fun p hp q hq=>by have:=zbm ha p hp;have:=zbm hb q hq;omega) (by rw [qkl];omega);have es:=ziu _ (zfc a.tr b.tr (twoF 5)) (Nat.le_refl _) (by rw [qkl];omega) (fewT.short fun x hx=>by rw [qkl] at hx;obtain ⟨p,hp,q,hq,rfl⟩:=zei.1 hx;have:=zbm ha p hp;have:=zbm hb q hq;have:=qnt p q;omega);rw [zcj,hk];simp only [Option.bind_some,hx,hi,cond_true,i0,i1,j0,j1,ea,eb,nd,ec,es];rfl
   ·simp only [Tm.qo,Bool.and_eq_true] at ho;have ea:=(zrb a ha).2 ho.1;have eb:=(zrb b hb).2 (Tm.zhe ho.2);have hne:=Tm.xjc ho.2;have hle:=xbg (A:=a.pq) (B:=b.pq) hne;have hmul:=Nat.le_trans (Nat.mul_le_mul (Tm.zbe a).2 (Tm.zbe b).2) (Tm.qsy (a:=a) (b:=b) (m:=.seq a b) rfl (Nat.le_refl _));have ec:=yil a.pq b.pq (by have:=(zii ha).2;omega) (by have:=(zii hb).2;omega) (fun p hp q hq=>by have:=zfk ha p hp;have:=zfk hb q hq;omega) (by omega);have es:=zhc _ (seqR a.pq b.pq) (Nat.le_refl _) (by omega) (fewQ.short fun x hx=>by
     obtain ⟨p,hp,q,hq,rfl⟩:=zei.1 ((ymd hne).1 hx);have:=zfk ha p hp;have:=zfk hb q hq;unfold seqF;split
     ·have:=qnt p.1 q.1;have:=qnt q.2 p.2;exact ⟨by show (zek p.1 q.1).1.length≤12;omega,by show (zek q.2 p.2).1.length≤12;omega⟩
     ·exact ⟨by omega,by omega⟩)
    rw [qsu ordQ fun x=>ymd hne] at es;rw [zfu,hk];simp only [Option.bind_some,hx,hi,cond_true,i0,i1,j0,j1,ea,eb,ec,es];rfl
 | .alt a b,h=>by
   obtain ⟨ha,hb⟩:=sm2 h (Tm.zsf a b) rfl;have hk:=zra (.alt a b) rfl (zlw h);have hx:ix (Tm.alt a b).row 0=nd 6:=rfl;have hi:zaa 0 (Tm.alt a b).row.length=true:=zam (by rw [Tm.zac];exact Tm.zda _);have i0:ix [a.row,b.row] 0=a.row:=rfl;have i1:ix [a.row,b.row] 1=b.row:=rfl;have j0:zaa 0 [a.row,b.row].length=true:=rfl;have j1:zaa 1 [a.row,b.row].length=true:=rfl;have la:=zii ha;have lb:=zii hb;refine ⟨fun ho=> ?_,fun ho=> ?_⟩
   ·simp only [Tm.po,Bool.and_eq_true] at ho;have ea:=(zrb a ha).1 (Tm.zbv ho.1);have eb:=(zrb b hb).1 (Tm.zbv ho.2);have ec:=qzz a.tr b.tr (by omega);have es:=ziu _ (a.tr++b.tr) (Nat.le_refl _) (by rw [List.length_append];omega) (fewT.short fun x hx=>by
     rcases List.mem_append.1 hx with hx|hx
     ·have:=zbm ha x hx;omega
     ·have:=zbm hb x hx;omega)
    rw [zcj,hk];simp only [Option.bind_some,hx,hi,cond_true,i0,i1,j0,j1,ea,eb,nd,ec,es];rfl
   ·simp only [Tm.qo,Bool.and_eq_true] at ho;have ea:=(zrb a ha).2 (Tm.zhe ho.1);have eb:=(zrb b hb).2 (Tm.zhe ho.2);have es:=zhc _ (a.pq++b.pq) (Nat.le_refl _) (by rw [List.length_append];omega) (fewQ.short fun x hx=>by
     rcases List.mem_append.1 hx with hx|hx
     ·have:=zfk ha x hx;omega
     ·have:=zfk hb x hx;omega)
    rw [zfu,hk];simp only [Option.bind_some,hx,hi,cond_true,i0,i1,j0,j1,ea,eb,List.nil_append,room (show (0+a.pq.length)*64≤140737488355328 by omega),room (show (a.pq.length+b.pq.length)*64≤140737488355328 by omega),es];rfl
 | .par a b,h=>by
   obtain ⟨ha,hb⟩:=sm2 h (Tm.zbj a b) rfl;have hk:=zra (.par a b) rfl (zlw h);have hx:ix (Tm.par a b).row 0=nd 7:=rfl;have hi:zaa 0 (Tm.par a b).row.length=true:=zam (by rw [Tm.zac];exact Tm.zda _);have i0:ix [a.row,b.row] 0=a.row:=rfl;have i1:ix [a.row,b.row] 1=b.row:=rfl;have j0:zaa 0 [a.row,b.row].length=true:=rfl;have j1:zaa 1 [a.row,b.row].length=true:=rfl;have hbig:=qky h;refine ⟨fun ho=> ?_,fun ho=> ?_⟩
   ·simp only [Tm.po,Bool.and_eq_true] at ho;have ea:=(zrb a ha).1 ho.1;have eb:=(zrb b hb).1 ho.2;have hl:=Tm.yta (Tm.zbe a).1 (Tm.zbe b).1;have ec:=qem 7 (by decide) a.tr b.tr (by have:=(zii ha).1;omega) (by have:=(zii hb).1;omega) (fun p hp q hq=>by have:=zbm ha p hp;have:=zbm hb q hq;omega) (by rw [qkk];omega);have es:=ziu _ (zfc a.tr b.tr (twoF 7)) (Nat.le_refl _) (by rw [qkk];omega) (fewT.short fun x hx=>by rw [qkk] at hx;obtain ⟨p,hp,q,hq,hx⟩:=zvv.1 hx;have:=(zxn.1 hx).1.len;have:=zbm ha p hp;have:=zbm hb q hq;omega);rw [zcj,hk];simp only [Option.bind_some,hx,hi,cond_true,i0,i1,j0,j1,ea,eb,nd,ec,es];rfl
   ·simp only [Tm.qo,Bool.and_eq_true] at ho;have ea:=(zrb a ha).2 ho.1;have eb:=(zrb b hb).2 ho.2;have hl:=Tm.yly (Tm.zbe a).2 (Tm.zbe b).2;have ec:=yim a.pq b.pq (by have:=(zii ha).2;omega) (by have:=(zii hb).2;omega) (fun p hp q hq=>by have:=zfk ha p hp;have:=zfk hb q hq;omega) (by omega);have es:=zhc _ (zfc a.pq b.pq parF) (Nat.le_refl _) (by omega) (fewQ.short fun x hx=>by obtain ⟨p,hp,q,hq,hx⟩:=zvv.1 hx;obtain ⟨⟨h1,_⟩,h2,_⟩:=Tm.yme.1 hx;have:=h1.len;have:=h2.len;have:=zfk ha p hp;have:=zfk hb q hq;omega);rw [zfu,hk];simp only [Option.bind_some,hx,hi,cond_true,i0,i1,j0,j1,ea,eb,ec,es];rfl
 | .hand a b,h=>by
   obtain ⟨ha,hb⟩:=sm2 h (Tm.zay a b) rfl;have hk:=zra (.hand a b) rfl (zlw h);have hx:ix (Tm.hand a b).row 0=nd 8:=rfl;have hi:zaa 0 (Tm.hand a b).row.length=true:=zam (by rw [Tm.zac];exact Tm.zda _);have i0:ix [a.row,b.row] 0=a.row:=rfl;have i1:ix [a.row,b.row] 1=b.row:=rfl;have j0:zaa 0 [a.row,b.row].length=true:=rfl;have j1:zaa 1 [a.row,b.row].length=true:=rfl;have hbig:=qky h;refine ⟨fun ho=> ?_,fun ho=>by simp [Tm.qo] at ho⟩;simp only [Tm.po,Bool.and_eq_true] at ho;have ea:=(zrb a ha).1 ho.1;have eb:=(zrb b hb).1 (Tm.zbv ho.2);have hl:=Tm.zon (f:=qcn) (Tm.zbe a).1 (Tm.zbe b).1 (m:=.hand a b) rfl (Nat.le_refl _);have ec:=qem 8 (by decide) a.tr b.tr (by have:=(zii ha).1;omega) (by have:=(zii hb).1;omega) (fun p hp q hq=>by have:=zbm ha p hp;have:=zbm hb q hq;omega) (by rw [qkj];omega);have es:=ziu _ (zfc a.tr b.tr (twoF 8)) (Nat.le_refl _) (by rw [qkj];omega) (fewT.short fun x hx=>by
    rw [qkj] at hx;obtain ⟨p,hp,q,hq,rfl⟩:=zei.1 hx;have:=zbm ha p hp;have:=zbm hb q hq;unfold qcn behT;split
    ·simp only [List.length_append];omega
    ·omega)
   rw [zcj,hk];simp only [Option.bind_some,hx,hi,cond_true,i0,i1,j0,j1,ea,eb,nd,ec,es];rfl
 | .block a,h=>by
   have ha:=sm1 h (Tm.zan a) rfl;have hk:=qvz (.block a) rfl (zlw h);have hx:ix (Tm.block a).row 0=nd 9:=rfl;have hi:zaa 0 (Tm.block a).row.length=true:=zam (by rw [Tm.zac];exact Tm.zda _);have i0:ix [a.row] 0=a.row:=rfl;have j0:zaa 0 [a.row].length=true:=rfl;have la:=(zii ha).2;refine ⟨fun ho=> ?_,fun ho=>by simp [Tm.qo] at ho⟩;simp only [Tm.po] at ho;have ea:=(zrb a ha).2 ho;have ec:=yac a.pq (by omega) (fun x hx=>by have:=zfk ha x hx;omega);have hl:=Tm.yer (Q:=a.pq);have es:=ziu _ (a.pq.flatMap blkF) (Nat.le_refl _) (by omega) (fewT.short fun x hx=>by
    obtain ⟨z,hz,hx⟩:=List.mem_flatMap.1 hx;have:=zfk ha z hz;rcases Tm.ymg.1 hx with ⟨_,rfl⟩|⟨_,rfl⟩
    ·omega
    ·unfold behT;simp only [List.length_append];omega)
   rw [zcj,hk];simp only [Option.bind_some,hx,hi,cond_true,i0,j0,ea,ec,es];rfl
 | .pair a b,h=>by
   obtain ⟨ha,hb⟩:=sm2 h (Tm.zuy a b) rfl;have hk:=zra (.pair a b) rfl (zlw h);have hx:ix (Tm.pair a b).row 0=nd 10:=rfl;have hi:zaa 0 (Tm.pair a b).row.length=true:=zam (by rw [Tm.zac];exact Tm.zda _);have i0:ix [a.row,b.row] 0=a.row:=rfl;have i1:ix [a.row,b.row] 1=b.row:=rfl;have j0:zaa 0 [a.row,b.row].length=true:=rfl;have j1:zaa 1 [a.row,b.row].length=true:=rfl;have hbig:=qky h;refine ⟨fun ho=>by simp [Tm.po] at ho,fun ho=> ?_⟩;simp only [Tm.qo,Bool.and_eq_true] at ho;have ea:=(zrb a ha).1 (Tm.zbv ho.1);have eb:=(zrb b hb).1 (Tm.zbv ho.2);have hne:=Tm.ynk ho.2;have hle:=yuu (A:=a.tr) (B:=b.tr) hne;have hmul:=Nat.le_trans (Nat.mul_le_mul (Tm.zbe a).1 (Tm.zbe b).1) (Tm.qsy (a:=a) (b:=b) (m:=.pair a b) rfl (by rw [Tm.cw];omega));have ec:=qhk a.tr b.tr (by have:=(zii ha).1;omega) (by have:=(zii hb).1;omega) (by omega)
   have es:=zhc _ (goR a.tr b.tr++[(([],3),([],1))]) (Nat.le_refl _) (by rw [List.length_append,List.length_singleton];omega) (fewQ.short fun x hx=>by
    rcases List.mem_append.1 hx with hx|hx
    ·obtain ⟨p,hp,q,hq,rfl⟩:=zei.1 ((yay hne).1 hx);have:=zbm ha p hp;have:=zbm hb q hq;refine ⟨by show p.1.length≤12;omega,?_⟩;show (if p.2=1 then q else ([],1)).1.length≤12;split
     ·omega
     ·simp
    ·rw [List.mem_singleton.1 hx];simp)
   rw [qsu ordQ (m:=zjg a.tr b.tr goF++[(([],3),([],1))]) fun x=>by rw [List.mem_append,List.mem_append,yay hne]] at es;rw [zfu,hk];simp only [Option.bind_some,hx,hi,cond_true,i0,i1,j0,j1,ea,eb,ec,zhd,room (show ((goR a.tr b.tr).length+1)*64≤140737488355328 by omega),es];rfl
 | .going a b,h=>by
   obtain ⟨ha,hb⟩:=sm2 h (Tm.zbo a b) rfl;have hk:=zra (.going a b) rfl (zlw h);have hx:ix (Tm.going a b).row 0=nd 12:=rfl;have hi:zaa 0 (Tm.going a b).row.length=true:=zam (by rw [Tm.zac];exact Tm.zda _);have i0:ix [a.row,b.row] 0=a.row:=rfl;have i1:ix [a.row,b.row] 1=b.row:=rfl;have j0:zaa 0 [a.row,b.row].length=true:=rfl;have j1:zaa 1 [a.row,b.row].length=true:=rfl;have hbig:=qky h;refine ⟨fun ho=>by simp [Tm.po] at ho,fun ho=> ?_⟩;simp only [Tm.qo,Bool.and_eq_true] at ho;have ea:=(zrb a ha).1 ho.1;have eb:=(zrb b hb).1 (Tm.zbv ho.2);have hne:=Tm.ynk ho.2;have hle:=yuu (A:=a.tr) (B:=b.tr) hne;have hmul:=Nat.le_trans (Nat.mul_le_mul (Tm.zbe a).1 (Tm.zbe b).1) (Tm.qsy (a:=a) (b:=b) (m:=.going a b) rfl (Nat.le_refl _));have ec:=qhk a.tr b.tr (by have:=(zii ha).1;omega) (by have:=(zii hb).1;omega) (by omega)
   have es:=zhc _ (goR a.tr b.tr) (Nat.le_refl _) (by omega) (fewQ.short fun x hx=>by
    obtain ⟨p,hp,q,hq,rfl⟩:=zei.1 ((yay hne).1 hx);have:=zbm ha p hp;have:=zbm hb q hq;refine ⟨by show p.1.length≤12;omega,?_⟩;show (if p.2=1 then q else ([],1)).1.length≤12;split
    ·omega
    ·simp)
   rw [qsu ordQ fun x=>yay hne] at es;rw [zfu,hk];simp only [Option.bind_some,hx,hi,cond_true,i0,i1,j0,j1,ea,eb,ec,es];rfl
 | .stack a c,h=>by
   obtain ⟨ha,hb⟩:=sm2 h (Tm.zca a c) rfl;have hk:=zra (.stack a c) rfl (zlw h);have hx:ix (Tm.stack a c).row 0=nd 13:=rfl;have hi:zaa 0 (Tm.stack a c).row.length=true:=zam (by rw [Tm.zac];exact Tm.zda _);have i0:ix [a.row,c.row] 0=a.row:=rfl;have i1:ix [a.row,c.row] 1=c.row:=rfl;have j0:zaa 0 [a.row,c.row].length=true:=rfl;have j1:zaa 1 [a.row,c.row].length=true:=rfl;have hbig:=qky h;refine ⟨fun ho=>by simp [Tm.po] at ho,fun ho=> ?_⟩;simp only [Tm.qo,Bool.and_eq_true] at ho;have ea:=(zrb a ha).2 ho.1;have eb:=(zrb c hb).1 (Tm.zbv ho.2);have hl:=Tm.zon (f:=fun (x:Qc) (q:Tc)=>(x.1,zek x.2 q)) (Tm.zbe a).2 (Tm.zbe c).1 (m:=.stack a c) rfl (Nat.le_refl _);have hmul:=Nat.le_trans (Nat.mul_le_mul (Tm.zbe a).2 (Tm.zbe c).1) (Tm.qsy (a:=a) (b:=c) (m:=.stack a c) rfl (Nat.le_refl _))
   have ec:=yaa a.pq c.tr (by have:=(zii ha).2;omega) (by have:=(zii hb).1;omega) (fun p hp q hq=>by have:=zfk ha p hp;have:=zbm hb q hq;omega) (by omega);have es:=zhc _ (zjg a.pq c.tr fun (x:Qc) (q:Tc)=>(x.1,zek x.2 q)) (Nat.le_refl _) (by omega) (fewQ.short fun x hx=>by obtain ⟨p,hp,q,hq,rfl⟩:=zei.1 hx;have:=zfk ha p hp;have:=zbm hb q hq;have:=qnt p.2 q;exact ⟨by show p.1.1.length≤12;omega,by show (zek p.2 q).1.length≤12;omega⟩);rw [zfu,hk];simp only [Option.bind_some,hx,hi,cond_true,i0,i1,j0,j1,ea,eb,ec,es];rfl
 | .fin s c,h=>by have ha:=sm1 h (Tm.zbu s c) rfl;have hk:=qvz (.fin s c) rfl (zlw h);have hx:ix (Tm.fin s c).row 0=(14,ByteArray.empty,s):=rfl;have hi:zaa 0 (Tm.fin s c).row.length=true:=zam (by rw [Tm.zac];exact Tm.zda _);have i0:ix [c.row] 0=c.row:=rfl;have j0:zaa 0 [c.row].length=true:=rfl;have la:=(zii ha).1;refine ⟨fun ho=>by simp [Tm.po] at ho,fun ho=> ?_⟩;simp only [Tm.qo] at ho;have ea:=(zrb c ha).1 (Tm.zbv ho);have ec:=yin s c.tr (by omega);have es:=zhc _ (c.tr.map fun q=>(([],s),q)) (Nat.le_refl _) (by rw [List.length_map];omega) (fewQ.short fun x hx=>by obtain ⟨q,hq,rfl⟩:=List.mem_map.1 hx;have:=zbm ha q hq;exact ⟨by simp,by show q.1.length≤12;omega⟩);rw [zfu,hk];simp only [Option.bind_some,hx,hi,cond_true,i0,j0,ea,ec,es];rfl
def wfT (t:Tc):Prop:=(t.1.length≤reachBytes∧∀x∈t.1,x.size≤reachBytes)∧(Lit.int .i64 t.2).wf=true
def wfTs (l:List Tc):Prop:=l.length≤reachBytes∧∀x∈l,wfT x
theorem wfT.len [Dfr] {t:Tc} (h:wfT t):t.1.length≤140737488351232:=h.1.1
theorem wfTs.short [Dfr] {l:List Tc} (h:wfTs l):zgq l:=fun x hx=>by have:=(h.2 x hx).len;omega
theorem qdl [Dfr] (xs:List Tc) (hx:xs.length≤1000000000):∀(r:List Tc) (i:Nat) (acc:List Tc),xs.drop i=r→acc.length≤i→zqf acc xs (xs.length:Int) (i:Int)=some (0,acc++r)
 |[],i,acc,h,ha=>by obtain ⟨h1,h2⟩:=drop_nil h;rw [zyi];simp only [h2,cond_false,List.append_nil]
 |x::r,i,acc,h,ha=>by obtain ⟨h1,h2,h3,h4,h5,h6⟩:=zab h;rw [zyi];simp only [h2,h3,h4,cond_true,room (show (acc.length+1)*32≤140737488355328 by omega),zar (show i<9223372036854775807 by omega),qdl xs hx r (i+1) (acc++[x]) h5 (by simp;omega),List.append_assoc,List.singleton_append]
theorem yfs [Dfr] (xs:List Tc) (hx:xs.length≤1000000000):qka xs=some xs:=by have e:=qdl xs hx xs 0 [] rfl (by simp);rw [Int.natCast_zero] at e;rw [ybe,e];rfl
def zse (l:List Nd):Prop:=l.length≤24∧(l.countP fun x=>decide (x.1∈([1]:List Int)))≤6
instance (l:List Nd):Decidable (zse l):=by unfold zse;infer_instance
theorem qji [Dfr] {m:Tm}:zse m.row↔m.small:=by unfold zse Tm.small;rw [Tm.zac,Tm.zmw]
noncomputable def trL (l:List Nd):List Tc:=match tmOf l with|some m=>m.tr|none=>[]
theorem qoo [Dfr] {m:Tm} (h:m.fine) (hs:m.size≤200):trL m.row=m.tr:=by unfold trL;rw [zih.2 ⟨rfl,h,hs⟩]
noncomputable def qwe (l:List Nd):List Tc×Int:=if on (sOf l)=3 then (if zse l then (trL l,0) else ([],70)) else ([],1)
theorem yfo [Dfr] (l:List Nd):qjw l=some (decide (zse l)):=by
 rw [yaz];by_cases h:l.length≤24
 ·rw [decide_eq_true (show (l.length:Int)≤24 by omega),cond_true,qei l [1] (by omega) (by simp),Option.bind_some];exact congrArg some (decide_eq_decide.2 (by unfold zse;omega))
 ·rw [decide_eq_false (show ¬(l.length:Int)≤24 by omega),cond_false,decide_eq_false (fun h':zse l=>h h'.1)]
theorem zrf [Dfr] (l:List Nd) (n:Int) (i:Nat) (x:Nd) (rx:List Nd) (hi:l.drop i=x::rx) (ks:List Int) (hk:ks.length≤1000):∀(r:List Int) (j:Nat) (b:Bool),ks.drop j=r→zkl l ks n (i:Int) b (j:Int)=some (0,(l,ks,n,(i:Int),b||decide (x.1∈r)))
 |[],j,b,h=>by obtain ⟨h1,h2⟩:=drop_nil h;rw [zvn];simp only [h2,cond_false];simp
 |k::r,j,b,h=>by
  obtain ⟨g1,g2,g3,g4,g5,g6⟩:=zab hi;obtain ⟨h1,h2,h3,h4,h5,h6⟩:=zab h;rw [zvn];simp only [h2,h3,h4,g3,g4,cond_true,zar (show j<9223372036854775807 by omega)];cases b with
  |true=>simp only [cond_true];rw [zrf l n i x rx hi ks hk r (j+1) true h5];simp
  |false=>
   simp only [cond_false];rw [zrf l n i x rx hi ks hk r (j+1) _ h5]
   congr 6
   rw [Bool.false_or];by_cases e:k=x.1
   ·rw [e];simp
   ·rw [show (k==x.1)=false by simpa using e];simp [show ¬x.1=k from fun h=>e h.symm]
theorem zrg [Dfr] (l:List Nd) (hl:l.length≤1000000000) (ks:List Int) (hk:ks.length≤1000):∀(r:List Nd) (i n:Nat),l.drop i=r→n≤i→zkm l ks (n:Int) (i:Int)=some (0,((n+r.countP (fun x=>decide (x.1∈ks)):Nat):Int))
 |[],i,n,h,hn=>by obtain ⟨h1,h2⟩:=drop_nil h;rw [zvo];simp only [h2,cond_false];rfl
 |x::r,i,n,h,hn=>by
  obtain ⟨h1,h2,h3,h4,h5,h6⟩:=zab h;have e:=zrf l (n:Int) i x r h ks hk ks 0 false rfl;rw [Int.natCast_zero] at e;rw [zvo];simp only [h2,cond_true,e,Option.bind_some,Bool.false_or,zar (show i<9223372036854775807 by omega),zar (show n<9223372036854775807 by omega)];by_cases hx:x.1∈ks
  ·rw [decide_eq_true hx,List.countP_cons_of_pos (by simpa using hx),cond_true,zrg l hl ks hk r (i+1) (n+1) h5 (by omega)]
   congr 2;omega
  ·rw [decide_eq_false hx,List.countP_cons_of_neg (by simpa using hx),cond_false,zrg l hl ks hk r (i+1) n h5 (by omega)]
theorem yam [Dfr] (l:List Nd) (hl:l.length≤1000000000) (ks:List Int) (hk:ks.length≤1000):qev l ks=some ((l.countP (fun x=>decide (x.1∈ks)):Nat):Int):=by have e:=zrg l hl ks hk l 0 0 rfl (Nat.le_refl _);rw [Int.natCast_zero,Nat.zero_add] at e;rw [qun,e];rfl
theorem yad [Dfr] (l:List Nd):qeq l=some (decide (zse l)):=by
 rw [quj];by_cases h:l.length≤24
 ·rw [decide_eq_true (show (l.length:Int)≤24 by omega),cond_true,yam l (by omega) [1] (by simp),Option.bind_some];exact congrArg some (decide_eq_decide.2 (by unfold zse;omega))
 ·rw [decide_eq_false (show ¬(l.length:Int)≤24 by omega),cond_false,decide_eq_false (fun h':zse l=>h h'.1)]
theorem qjs [Dfr] {m:Tm} (hf:m.fine) (hz:m.size≤200) (ho:m.po=true) (hs:m.small):qwe m.row=(m.tr,0):=by unfold qwe;rw [yse hf hz,if_pos (of_decide_eq_true ((Tm.yyv m).symm.trans ho)),if_pos (qji.2 hs),qoo hf hz]
theorem qxe [Dfr]:∀m:Tm,m.t.bang=m.bang
 | .act s| .skip| .throw| .yield=>rfl
 | .over s=>rfl
 | .fin s a=>rfl
 | .alt a b| .hand a b| .pair a b=>rfl
 | .block a=>rfl
 | .seq a b=>qxe a
 | .going a b=>qxe a
 | .stack a b=>qxe a
 | .par a b=>by show (a.t.bang||b.t.bang)=(a.bang||b.bang);rw [qxe a,qxe b]
theorem xev [Dfr] {b:Tm} (hf:b.fine) (hz:b.size≤200) (ho:b.po=true∨b.qo=true) (hs:b.st=b):dmL b.row=b.bang:=by unfold dmL;rw [@decide_eq_true _ (Classical.propDecidable _) (qgf hf hz ho hs),show tree b.row=some b.t from zpn (Tm.t_ok b)];exact qxe b
theorem qht [Dfr] {a b:Bool}:((a&&b)=true)→a=true∧b=true:=by cases a<;>cases b<;>simp
theorem qmg [Dfr] (u:Tm):∀(c:Cx) (F:Bool),(c.fill u).fine→(c.fill u).size≤200→((c.fill u).po=true∨(c.fill u).qo=true)→(c.fill u).st=c.fill u→c.fr F=(if c.bsd.2=true then c.bsd.1.any dmL else (c.bsd.1.any dmL||F))
 | .hole,F,hf,hz,ho,hs=>rfl
 | .seq c b,F,hf,hz,ho,hs=>by have e:(Tm.seq (c.fill u) b).size=(c.fill u).size+b.size+1:=rfl;exact qmg u c F hf.1 (by have:(Tm.seq (c.fill u) b).size≤200:=hz;omega) (ho.imp (fun h=>(qht h).1) (fun h=>(qht h).1)) (Tm.qpq hs).1
 | .hand c b,F,hf,hz,ho,hs=>by have e:(Tm.hand (c.fill u) b).size=(c.fill u).size+b.size+1:=rfl;exact qmg u c F hf.1 (by have:(Tm.hand (c.fill u) b).size≤200:=hz;omega) (ho.elim (fun h=>.inl (qht h).1) (fun h=>nomatch h)) (Tm.qlc hs).1
 | .going c b,F,hf,hz,ho,hs=>by have e:(Tm.going (c.fill u) b).size=(c.fill u).size+b.size+1:=rfl;exact qmg u c F hf.1 (by have:(Tm.going (c.fill u) b).size≤200:=hz;omega) (ho.elim (fun h=>nomatch h) (fun h=>.inl (qht h).1)) (Tm.qgq hs).1
 | .stack c b,F,hf,hz,ho,hs=>by have e:(Tm.stack (c.fill u) b).size=(c.fill u).size+b.size+1:=rfl;exact qmg u c F hf.1 (by have:(Tm.stack (c.fill u) b).size≤200:=hz;omega) (ho.elim (fun h=>nomatch h) (fun h=>.inr (qht h).1)) (Tm.qgp hs).1
 | .block c,F,hf,hz,ho,hs=>by have e:(Tm.block (c.fill u)).size=(c.fill u).size+1:=rfl;have ih:=qmg u c false hf (by have:(Tm.block (c.fill u)).size≤200:=hz;omega) (ho.elim (fun h=>.inr h) (fun h=>nomatch h)) (Tm.qgr hs).1;show c.fr false=(if true=true then c.bsd.1.any dmL else _);rw [ih,if_pos rfl,Bool.or_false,ite_self]
 | .parL c b,F,hf,hz,ho,hs=>by
   have e:(Tm.par (c.fill u) b).size=(c.fill u).size+b.size+1:=rfl;have hz':(Tm.par (c.fill u) b).size≤200:=hz;obtain ⟨h1,h2,_⟩:=Tm.qec hs;have ho':((c.fill u).po=true∧b.po=true)∨((c.fill u).qo=true∧b.qo=true):=ho.imp qht qht;have ih:=qmg u c (F||b.bang) hf.1 (by omega) (ho'.imp (·.1) (·.1)) h1
   have hd:=xev hf.2 (by omega) (ho'.imp (·.2) (·.2)) h2
   show c.fr (F||b.bang)=_;rw [ih];by_cases hb:c.bsd.2=true
   ·have e:(Cx.parL c b).bsd=(c.bsd.1,true):=by simp only [Cx.bsd,if_pos hb]
    rw [e,if_pos hb,if_pos rfl]
   ·have e:(Cx.parL c b).bsd=(c.bsd.1++[b.row],false):=by simp only [Cx.bsd,if_neg hb]
    rw [e,if_neg hb,if_neg (by simp),List.any_append,←hd];simp only [List.any_cons,List.any_nil,Bool.or_false];cases c.bsd.1.any dmL<;>cases F<;>cases dmL b.row<;>rfl
 | .parR a c,F,hf,hz,ho,hs=>by
   have e:(Tm.par a (c.fill u)).size=a.size+(c.fill u).size+1:=rfl;have hz':(Tm.par a (c.fill u)).size≤200:=hz;obtain ⟨h1,h2,_⟩:=Tm.qec hs;have ho':(a.po=true∧(c.fill u).po=true)∨(a.qo=true∧(c.fill u).qo=true):=ho.imp qht qht;have ih:=qmg u c (F||a.bang) hf.2 (by omega) (ho'.imp (·.2) (·.2)) h2
   have hd:=xev hf.1 (by omega) (ho'.imp (·.1) (·.1)) h1
   show c.fr (F||a.bang)=_;rw [ih];by_cases hb:c.bsd.2=true
   ·have e:(Cx.parR a c).bsd=(c.bsd.1,true):=by simp only [Cx.bsd,if_pos hb]
    rw [e,if_pos hb,if_pos rfl]
   ·have e:(Cx.parR a c).bsd=(c.bsd.1++[a.row],false):=by simp only [Cx.bsd,if_neg hb]
    rw [e,if_neg hb,if_neg (by simp),List.any_append,←hd];simp only [List.any_cons,List.any_nil,Bool.or_false];cases c.bsd.1.any dmL<;>cases F<;>cases dmL a.row<;>rfl
theorem ybj [Dfr] {c:Cx} {u:Tm} (hs:setL (c.fill u).row):qfg (c.fill u).t c.pos=c.fr true:=by obtain ⟨hf,hz,ho,hst⟩:=qyw hs;have:=Cx.ztf u c 0;rw [Nat.zero_add] at this;rw [qmg u c true hf hz ho hst];unfold qfg;rw [this];cases c.bsd.2<;>simp
theorem qxo [Dfr] {u:Tm} (hu:u.Wt) {how k:Int} {f:Bool}:(k,how)∈zic u.t.hd.1 k f↔u.wayT how f:=by
 rcases hu with ⟨s,rfl⟩|⟨a,b,rfl⟩|rfl|⟨a,b,rfl⟩
 ·simp [zic,Tm.t,T.hd,Tm.wayT]
 ·simp [zic,Tm.t,T.hd,Tm.wayT]
 ·cases f<;>simp [zic,Tm.t,T.hd,Tm.wayT]
 ·cases f<;>simp [zic,Tm.t,T.hd,Tm.wayT]
theorem yub [Dfr] {u:Tm} (hu:u.Wt) (hf:u.fine):(if u.t.hd.2.1=(⟨#[]⟩:ByteArray) then [] else [u.t.hd.2.1])=u.nmL:=by
 rcases hu with ⟨s,rfl⟩|⟨a,b,rfl⟩|rfl|⟨a,b,rfl⟩
 ·have h:qmx s=true:=hf;show (if s=_ then [] else [s])=[s];rw [if_neg];rintro rfl;revert h;decide
 ·exact if_pos rfl
 ·exact if_pos rfl
 ·exact if_pos rfl
def w1 (n:Nd):Nat:=if n.1=1 then 1 else 0
theorem xbf [Dfr]:Tm.Light w1:=⟨rfl,fun _=>rfl,fun _=>rfl,rfl,rfl⟩
theorem xgw [Dfr] (m:Tm):m.nm.length=m.wt w1:=by
 rw [Tm.zmw];show _=(m.row.map w1).sum;generalize m.row=l
 induction l with
 |nil=>rfl
 |cons n l ih=>
  rw [List.map_cons,List.sum_cons,←ih];by_cases h:n.1=1
  ·rw [List.countP_cons_of_pos (by simp [h])];unfold w1;rw [if_pos h];omega
  ·rw [List.countP_cons_of_neg (by simp [h])];unfold w1;rw [if_neg h];omega
theorem xkt [Dfr] {u:Tm} (hu:u.Wt) (how:Int):(u.mdT how).nm.length≤u.nm.length:=by
 rcases hu with ⟨s,rfl⟩|⟨a,b,rfl⟩|rfl|⟨a,b,rfl⟩
 ·exact Nat.zero_le _
 ·show (if how=2 then a else b).nm.length≤(a.nm++b.nm).length;rw [List.length_append];split<;>omega
 ·show (if how=5 then Tm.over 3 else Tm.over 1).nm.length≤0;split<;>exact Nat.le_refl _
 ·show (if how=5 then Tm.fin 3 .skip else Tm.going a b).nm.length≤(a.nm++b.nm).length;split
  ·exact Nat.zero_le _
  ·exact Nat.le_refl _
theorem xhg [Dfr] (c:Cx) (x y:Tm):(c.fill x).nm.length+y.nm.length=(c.fill y).nm.length+x.nm.length:=by obtain ⟨A,B,h1,h2⟩:=Cx.zkt c;simp only [xgw,Tm.wt,h2,List.map_append,List.sum_append];omega
theorem qju [Dfr] {c:Cx} {u:Tm} {how:Int} (hu:u.Wt) (h:(c.fill u).small) (hz:(c.fill (u.mdT how)).size≤(c.fill u).size):(c.fill (u.mdT how)).st.small:=by obtain ⟨h1,h2⟩:=h;have e1:=Tm.zbz (c.fill (u.mdT how));have e2:=Tm.xic w1 xbf (c.fill (u.mdT how));have e3:=xhg c (u.mdT how) u;have e4:=xkt hu how;rw [←xgw,←xgw] at e2;exact ⟨by omega,by omega⟩
def zmx (s:ByteArray) (L:List Tc):List Tc:=L.map fun x=>((if s=(⟨#[]⟩:ByteArray) then [] else [s])++x.1,x.2)
theorem yov [Dfr] {m:Tm} (hs:setL m.row) (hp:m.po=true) (hsm:m.small) {mv:Mv} (h:mv∈enL m.row):∃(c:Cx) (u:Tm),m=c.fill u∧u.Wt∧u.fine∧mv.1=(c.pos:Int)∧u.wayT mv.2 (c.fr true)∧
 zdc m.row mv=((c.fill (u.mdT mv.2)).st.row,u.t.hd.2.1,0)∧qwe (c.fill (u.mdT mv.2)).st.row=((c.fill (u.mdT mv.2)).tr,0)∧(c.fill (u.mdT mv.2)).tr.length≤400000000∧(∀x∈(c.fill (u.mdT mv.2)).tr,x.1.length≤6)∧(c.fill (u.mdT mv.2)).st.size≤200:=by
 obtain ⟨c,u,rfl,hu,h1,h2⟩:=xjx h;have hm:mv=((c.pos:Int),mv.2):=by rw [←h1]
 rw [hm] at h2;obtain ⟨n1,n2,n3,n4,_⟩:=yjd hs hu h2;obtain ⟨hf,hz,ho,hst⟩:=qyw hs;have hpo:=n4 hp;have hst2:=Tm.qyl hpo;have hsm2:=qju (how:=mv.2) hu hsm n3;have e1:=Tm.zbz (c.fill (u.mdT mv.2));have htr:=(Tm.ylq (c.fill (u.mdT mv.2))).1 hpo;refine ⟨c,u,rfl,hu,(Cx.zdm c (x:=u) hf).2,h1,?_,?_,?_,?_,?_,by omega⟩
 ·rw [←ybj hs];exact (qxo hu).1 h2
 ·rw [hm];exact n1
 ·rw [qjs (Tm.qjh n2) (by omega) hst2 hsm2,htr]
 ·rw [←htr];exact (zii hsm2).1
 ·rw [←htr];exact zbm hsm2
noncomputable def zyw (l:List Nd) (mv:Mv):List Tc:=zmx (zdc l mv).2.1 (qwe (zdc l mv).1).1
theorem qyh [Dfr] {m:Tm} (hs:setL m.row) (hp:m.po=true) (hsm:m.small) (hov:m.zjb=false) (x:Tc):x∈(enL m.row).flatMap (zyw m.row)↔x∈m.tr:=by
 obtain ⟨hfi,hz,ho,hst⟩:=qyw hs;rw [List.mem_flatMap];constructor
 ·rintro ⟨mv,hmv,hx⟩;obtain ⟨c,u,rfl,hu,hf,e2,e3,e4,e5,e6,e7,e8⟩:=yov hs hp hsm hmv;unfold zyw at hx;rw [e4] at hx;have hx:x∈zmx u.t.hd.2.1 (qwe (c.fill (u.mdT mv.2)).st.row).1:=hx;rw [e5] at hx;obtain ⟨y,hy,rfl⟩:=List.mem_map.1 hx;rw [yub hu hf];exact (Tm.sound e3 c).1 y hy
 ·intro hx;obtain ⟨c,u,how,y,rfl,hu,hw,hy,rfl⟩:=(Tm.ztc m hst hfi).1 hp hov true x hx (.inl rfl);have hmv:((c.pos:Int),how)∈enL (c.fill u).row:=xjy hs hu (by rw [ybj hs];exact (qxo hu).2 hw);refine ⟨_,hmv,?_⟩;have hin:((c.pos:Int),how)∈zic u.t.hd.1 (c.pos:Int) (qfg (c.fill u).t c.pos):=by rw [ybj hs];exact (qxo hu).2 hw
  obtain ⟨n1,n2,n3,n4,_⟩:=yjd hs hu hin;have hpo:=n4 hp;have hsm2:=qju (how:=how) hu hsm n3;have e1:=Tm.zbz (c.fill (u.mdT how));unfold zyw;rw [n1];show _∈zmx u.t.hd.2.1 (qwe (c.fill (u.mdT how)).st.row).1;rw [qjs (Tm.qjh n2) (by omega) (Tm.qyl hpo) hsm2,(Tm.ylq _).1 hpo];refine List.mem_map.2 ⟨y,hy,?_⟩;rw [yub hu (Cx.zdm c (x:=u) hfi).2];rfl
end Go.Proofs.YtjolkdjkhekbnaaGreatDoor.Sv
