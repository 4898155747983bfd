/- What the functions of package doom compute: in plain words. -/
import Derived.Test.YtjolkdjkhekbnaaGreatDoorM12
import Derived.Test.YtjolkdjkhekbnaaGreatDoorW10
namespace Go.Proofs.YtjolkdjkhekbnaaGreatDoor.Sv
open Go Go.Sv Go.Rd
class zcd [Dfr]:Prop where
 eq:∀l k,Dfr.d_plot_Over l k=zqc l k
theorem qgj [Dfr] [zcd] {l:List Nd} {t:T} (ht:tree l=some t) (hl:l.length≤1000000) {k:Nat} (hk:k<l.length):zyt l (k:Int)=some ((t.ovr k).map fun (i:Nat)=>(i:Int)):=by
 rw [qrp]
 show Dfr.d_plot_Over l _=_
 rw [zcd.eq]
 unfold zqc
 rw [ht]
 simp only
 rw [if_pos ⟨hl,by omega,by omega⟩,Int.toNat_natCast]
theorem qwe [Dfr] (n:Nd):qhr n=some (goK n.1:Int):=by
 rw [qsy]
 by_cases h1:n.1=5; · rw [h1];rfl
 by_cases h2:n.1=8; · rw [h2];rfl
 by_cases h3:n.1=12; · rw [h3];rfl
 by_cases h4:n.1=13; · rw [h4];rfl
 by_cases h5:n.1=9; · rw [h5];rfl
 by_cases h6:n.1=7; · rw [h6];rfl
 have e:goK n.1=0:=by unfold goK;rw [if_neg (by omega),if_neg h6]
 rw [e]
 have f:∀c:Int,¬n.1=c→(n.1==c)=false:=fun c h=>by rw [beq_eq_false_iff_ne];exact h
 simp only [f 5 h1,f 8 h2,f 12 h3,f 13 h4,f 9 h5,f 7 h6,cond_false]
 rfl
theorem qlp [Dfr] (l:List Nd) (hl:l.length≤1000000) (k:Nat) (x:Nat×Nat×T) (hx:qtq l k x):qea l (x.1:Int) (k:Int)=some (x.2.1:Int):=by
 obtain ⟨hok,⟨r,hr⟩,hlt,hm⟩:=hx
 obtain ⟨i,j,s⟩:=x
 simp only at hok hr hlt hm ⊢
 have hil:i≤l.length:=by
  rcases Nat.lt_or_ge l.length i with h|h
  ·rw [List.drop_eq_nil_of_le (by omega)] at hr
   have:=congrArg List.length hr
   have:=T.zpv s
   simp [T.zab] at *
   omega
  ·exact h
 have hlen:=congrArg List.length hr
 rw [List.length_drop,List.length_append,T.zab] at hlen
 have hkl:k<i+s.size:=by
  cases s with
  |n0 n=>exact hm.elim
  |n1 n a=>simp only at hm;simp only [T.size];omega
  |n2 n a b=>simp only at hm;simp only [T.size];omega
 rw [qwd,znj hil (Nat.le_refl _),qox,hr,zgx _ (by rw [List.length_append,T.zab];omega)]
 have hkr:zgf (s.row++r)=s.kids.map T.row:=by unfold zgf;rw [qio hok]
 have ew:w64 ((k:Int)-w64 ((i:Int)+1))=(k:Int)-((i:Int)+1):=by rw [znt (n:=(i:Int)+1) (by omega) (by omega),znt (by omega) (by omega)]
 rw [hkr,ew]
 simp only [cond_true,Option.bind_some]
 cases s with
 |n0 n=>exact hm.elim
 |n1 n a =>
  simp only at hm
  obtain ⟨rfl,h2⟩:=hm
  have hs:(([a].map T.row).length:Int)=1:=rfl
  simp only [T.size] at hlen hkl
  rw [show (T.n1 n a).kids=[a] from rfl,hs,zpa]
  have e1:ix ([a].map T.row) 0=a.row:=rfl
  simp only [e1,T.zab]
  rw [znt (by omega) (by omega),show zaa 0 ([a].map T.row).length=true from rfl,decide_eq_true (show (0:Int)<1 by omega),decide_eq_true (show (k:Int)-((i:Int)+1)-(a.size:Int)<0 by omega)]
  rfl
 |n2 n a b =>
  simp only at hm
  have hs:(([a,b].map T.row).length:Int)=2:=rfl
  rw [show (T.n2 n a b).kids=[a,b] from rfl,hs,zpa]
  have e1:ix ([a,b].map T.row) 0=a.row:=rfl
  have e2:ix ([a,b].map T.row) 1=b.row:=rfl
  simp only [T.size] at hlen hkl
  rcases hm with ⟨rfl,h2⟩|⟨rfl,h2,h3⟩
  ·simp only [e1,T.zab]
   rw [znt (by omega) (by omega),show zaa 0 ([a,b].map T.row).length=true from rfl,decide_eq_true (show (0:Int)<2 by omega),decide_eq_true (show (k:Int)-((i:Int)+1)-(a.size:Int)<0 by omega)]
   rfl
  ·simp only [e1,T.zab]
   rw [znt (n:=(k:Int)-((i:Int)+1)-(a.size:Int)) (by omega) (by omega),show zaa 0 ([a,b].map T.row).length=true from rfl,decide_eq_true (show (0:Int)<2 by omega),decide_eq_false (show ¬(k:Int)-((i:Int)+1)-(a.size:Int)<0 by omega)]
   simp only [cond_true,cond_false]
   rw [show w64 (0+1)=1 from rfl,zpa]
   simp only [e2,T.zab]
   rw [znt (by omega) (by omega),show zaa 1 ([a,b].map T.row).length=true from rfl,decide_eq_true (show (1:Int)<2 by omega),decide_eq_true (show (k:Int)-((i:Int)+1)-(a.size:Int)-(b.size:Int)<0 by omega)]
   rfl
theorem qrs [Dfr] (l:List Nd) (k:Nat) (x:Nat×Nat×T) (hx:qtq l k x):l.getD x.1 default=x.2.2.hd∧x.1<l.length:=by
 obtain ⟨hok,⟨r,hr⟩,hlt,hm⟩:=hx
 have:l[x.1]? =some x.2.2.hd:=by
  rw [←List.head?_drop,hr]
  cases x.2.2<;>rfl
 exact ⟨by rw [List.getD_eq_getElem?_getD,this];rfl,(List.getElem?_eq_some_iff.1 this).1⟩
theorem qbg [Dfr] (l:List Nd) (hl:l.length≤1000000) (k:Nat) (x:Nat×Nat×T) (hx:qtq l k x):zgu (x.1:Int) l (k:Int)=some (decide (goK x.2.2.hd.1≤x.2.1)):=by
 obtain ⟨h1,h2⟩:=qrs l k x hx
 have h3:ix l (x.1:Int)=x.2.2.hd:=by rw [qhg h2,←h1,List.getD_eq_getElem?_getD,List.getElem?_eq_getElem h2];rfl
 rw [zzr,qlp l hl k x hx,Option.bind_some,zqh h2,h3,qwe]
 simp
theorem qht [Dfr] [zcd] (l:List Nd) (t:T) (ht:tree l=some t) (hl:l.length≤1000000) (k:Nat) (hk:k<l.length):zrv (k:Int) l=some (zvd (t.path 0 k)):=by
 obtain ⟨hok,hrow⟩:=zht.1 ht
 have hlen:l.length=t.size:=by rw [hrow,T.zab]
 have hp:=qgm l k t 0 [] hok (by rw [List.drop_zero,List.append_nil];exact hrow) (Nat.zero_le _) (by omega)
 rw [qdh,qgj ht hl hk,Option.bind_some]
 have hov:((t.ovr k).map fun (i:Nat)=>(i:Int))=(t.path 0 k).map fun x=>(x.1:Int):=by unfold T.ovr;rw [List.map_map];rfl
 have hval:∀x∈t.path 0 k,zgu (x.1:Int) l (k:Int)=some (decide (goK x.2.2.hd.1≤x.2.1)):=fun x hx=>qbg l hl k x (hp x hx)
 have hpl:(t.path 0 k).length≤4611686018427387904:=by
  have:=T.zuo t 0 k
  omega
 rw [hov,znn _ _ (fun j=>(zgu j l (k:Int)).getD false) (by rw [List.length_map];exact hpl) (fun j hj=>by
  obtain ⟨x,hx,rfl⟩:=List.mem_map.1 hj
  refine (zxe _ l (k:Int)).trans ?_
  rw [hval x hx];rfl),Option.bind_some]
 congr 1
 unfold zvd
 rw [List.any_map,Bool.eq_iff_iff,List.any_eq_true,List.any_eq_true]
 constructor
 ·rintro ⟨x,hx,h⟩
  refine ⟨x,hx,?_⟩
  simp only [Function.comp,hval x hx,Option.getD_some] at h
  exact h
 ·rintro ⟨x,hx,h⟩
  refine ⟨x,hx,?_⟩
  simp only [Function.comp,hval x hx,Option.getD_some]
  exact h
theorem count_one [Dfr] (x:Nd):([x].countP fun y=>decide (y.1∈([1,6,4,10]:List Int)))=if zcp x.1=true then 1 else 0:=by
 rw [List.countP_singleton]
 unfold zcp
 simp
theorem ztu [Dfr] (l:List Nd) (hl:l.length≤1000000) (f:FnV) (idle:Nat→Bool) (hd:∀k,k<l.length→dyn E f [.one (.int .i64 (k:Int))] .bool=some (idle k)):∀(r:List Nd) (i:Nat) (acc:List Int),l.drop i=r→acc.length≤i→
 zfu l f acc (l.length:Int) (i:Int)=some (0,acc++((List.range' i r.length).filter fun k=>zcp (l.getD k default).1&& !idle k).map fun (k:Nat)=>(k:Int))
 |[],i,acc,h,ha=>by
  obtain ⟨h1,h2⟩:=drop_nil h
  rw [zql]
  simp only [h2,cond_false]
  simp
 |x::r,i,acc,h,ha=>by
  obtain ⟨hi,hd0,hix,hx,hr,hle⟩:=zan h
  have hw:w64 ((i:Int)+1)=((i+1:Nat):Int):=by rw [znt (by omega) (by omega)];omega
  have hcut:cut l (i:Int) ((i+1:Nat):Int)=[x]:=by
   rw [ztv,qmq h]
  have hg:l.getD i default=x:=by
   have:l[i]? =some x:=by rw [←List.head?_drop,h];rfl
   rw [List.getD_eq_getElem?_getD,this];rfl
  have hc:=zrj [x] [1,6,4,10] (by simp) (by simp)
  rw [count_one] at hc
  have ih:=fun acc ha=>ztu l hl f idle hd r (i+1) acc hr ha
  rw [zql]
  simp only [hd0,cond_true,hw,znj (show i≤i+1 by omega) (show i+1≤l.length by omega),hcut,hc,Option.bind_some]
  rw [List.length_cons,List.range'_succ,List.filter_cons,hg]
  by_cases hwk:zcp x.1=true
  ·rw [if_pos hwk,hwk,hd i hi]
   cases hid:idle i with
   |true =>
    simp only [Option.bind_some,Bool.not_true,cond_false,Bool.and_false,Bool.false_eq_true,if_false]
    exact ih acc (by omega)
   |false =>
    simp only [Option.bind_some,Bool.not_false,cond_true,Bool.and_true,if_true,qgh (show (acc.length+1)*8≤140737488355328 by omega)]
    rw [ih (acc++[(i:Int)]) (by simp;omega)]
    simp
  ·rw [if_neg hwk]
   have:zcp x.1=false:=by cases h:zcp x.1;rfl;exact absurd h hwk
   rw [this]
   simp only [Bool.false_and,Bool.false_eq_true,if_false]
   exact ih acc (by omega)
theorem zzq [Dfr] [zcd] {l:List Nd} {t:T} (ht:tree l=some t) (hl:l.length≤1000000) (hs:l≠[]∧zbw l=l):zni l=some ((t.wts 0).map fun (k:Nat)=>(k:Int)):=by
 obtain ⟨hok,hrow⟩:=zht.1 ht
 have hlen:l.length=t.size:=by rw [hrow,T.zab]
 have e:=ztu l hl ⟨zlk,[⟨true,(.slice 68 (.pair (.int .i64) (.pair .str (.int .i64)))),l⟩]⟩ (fun k=>zvd (t.path 0 k)) (fun k hk=>by
  refine (qbf (k:Int) l).trans ?_
  exact qht l t ht hl k hk) l 0 [] rfl (Nat.le_refl _)
 rw [Int.natCast_zero] at e
 rw [zvx,zhv l (by omega),decide_eq_true hs]
 simp only [Option.bind_some,Bool.not_true,cond_false,e]
 rw [zih l t 0 [] (by rw [List.drop_zero,List.append_nil];exact hrow),hlen,List.nil_append]
theorem qka [Dfr] [zcd] {l:List Nd} (hl:l.length≤1000000) (hs:¬(l≠[]∧zbw l=l)):zni l=some []:=by
 rw [zvx,zhv l (by omega),decide_eq_false hs]
 rfl
theorem zng [Dfr] (l:List Nd) (hl:l.length≤1000000) (k:Nat) (xs:List Int) (hxl:xs.length≤1000000):∀(q:List (Nat×Nat×T)) (i:Nat) (out:List (List Nd)),(∀x∈q,qtq l k x)→xs.drop i=q.map (fun x=>(x.1:Int))→out.length≤i→
 zhs l (k:Int) out false xs (xs.length:Int) (i:Int)=some (if (revB q out).2=true then (1,((revB q out).1,true)) else (0,((revB q out).1,false)))
 |[],i,out,hq,h,ho=>by
  obtain ⟨h1,h2⟩:=drop_nil h
  rw [zqj]
  simp only [h2,cond_false,revB]
  rfl
 |x::q,i,out,hq,h,ho=>by
  have hx:=hq x (List.mem_cons_self ..)
  have hq':=fun y hy=>hq y (List.mem_cons_of_mem _ hy)
  obtain ⟨hi,hd0,hix,hxx,hr,hle⟩:=zan h
  have hw:w64 ((i:Int)+1)=((i+1:Nat):Int):=by rw [znt (by omega) (by omega)];omega
  obtain ⟨g1,g2⟩:=qrs l k x hx
  have g3:ix l (x.1:Int)=x.2.2.hd:=by rw [qhg g2,←g1,List.getD_eq_getElem?_getD,List.getElem?_eq_getElem g2];rfl
  rw [zqj]
  simp only [hd0,cond_true,hix,hxx,zqh g2,g3,hw]
  by_cases h9:x.2.2.hd.1=9
  ·rw [show (x.2.2.hd.1==9)=true by rw [h9];rfl]
   simp only [cond_true,revB,if_pos h9]
   rfl
  ·rw [show (x.2.2.hd.1==9)=false by rw [beq_eq_false_iff_ne];exact h9]
   simp only [cond_false]
   by_cases h7:x.2.2.hd.1=7
   ·rw [show (x.2.2.hd.1==7)=true by rw [h7];rfl]
    have hk:=qlp l hl k x hx
    obtain ⟨hok,⟨r,hrr⟩,hlt,hm⟩:=hx
    have hkids:zff (cut l (x.1:Int) (l.length:Int))=some (x.2.2.kids.map T.row):=by
     rw [qox,hrr,zgx _ (by have:=congrArg List.length hrr;rw [List.length_drop] at this;omega)]
     unfold zgf
     rw [qio hok]
    have hko:zaa (w64 (1-(x.2.1:Int))) (x.2.2.kids.map T.row).length=true∧ix (x.2.2.kids.map T.row) (w64 (1-(x.2.1:Int)))=x.2.2.kid (1-x.2.1):=by
     obtain ⟨i0,j,s⟩:=x
     simp only at hok hm h7 ⊢
     cases s with
     |n0 n=>exact hm.elim
     |n1 n a =>
      have:ar n.1=some 1:=hok.1
      rw [show n.1=7 from h7] at this
      cases this
     |n2 n a b =>
      simp only at hm
      rcases hm with ⟨rfl,_⟩|⟨rfl,_⟩
      ·exact ⟨rfl,rfl⟩
      ·exact ⟨rfl,rfl⟩
    simp only [cond_true,znj (show x.1≤l.length by omega) (Nat.le_refl _),hkids,hk,Option.bind_some,hko.1,hko.2,qgh (show (out.length+1)*24≤140737488355328 by omega)]
    rw [zng l hl k xs hxl q (i+1) _ hq' hr (by simp;omega)]
    simp only [revB,if_neg h9,if_pos h7]
   ·rw [show (x.2.2.hd.1==7)=false by rw [beq_eq_false_iff_ne];exact h7]
    simp only [cond_false]
    rw [zng l hl k xs hxl q (i+1) out hq' hr (by omega)]
    simp only [revB,if_neg h9,if_neg h7]
theorem qot [Dfr] [zcd] {l:List Nd} {t:T} (ht:tree l=some t) (hl:l.length≤1000000) (hs:l≠[]∧zbw l=l) {k:Nat} (hk:k∈t.wts 0):zxd l (k:Int)=some (zaz (t.path 0 k)):=by
 obtain ⟨hok,hrow⟩:=zht.1 ht
 have hlen:l.length=t.size:=by rw [hrow,T.zab]
 have hkr:=zxm t 0 k hk
 have hp:=qgm l k t 0 [] hok (by rw [List.drop_zero,List.append_nil];exact hrow) (Nat.zero_le _) (by omega)
 have hpl:=T.zuo t 0 k
 have hwl:((t.wts 0).map fun (k:Nat)=>(k:Int)).length≤4611686018427387904:=by
  rw [List.length_map,zih l t 0 [] (by rw [List.drop_zero,List.append_nil];exact hrow)]
  have:=List.length_filter_le (fun k=>zcp (l.getD k default).1&& !zvd (t.path 0 k)) (List.range' 0 t.size)
  rw [List.length_range'] at this
  omega
 have hmem:(k:Int)∈(t.wts 0).map fun (k:Nat)=>(k:Int):=List.mem_map.2 ⟨k,hk,rfl⟩
 have hov:((t.ovr k).map fun (i:Nat)=>(i:Int)).reverse=(t.path 0 k).reverse.map fun x=>(x.1:Int):=by unfold T.ovr;rw [List.map_map,←List.map_reverse];rfl
 have e:=zng l hl k ((t.path 0 k).reverse.map fun x=>(x.1:Int)) (by simp;omega) (t.path 0 k).reverse 0 [] (fun x hx=>hp x (List.mem_reverse.1 hx)) rfl (Nat.le_refl _)
 rw [Int.natCast_zero] at e
 rw [qjy,zzq ht hl hs,Option.bind_some,zjt _ _ hwl,decide_eq_true hmem,qgj ht hl (by omega)]
 simp only [Option.bind_some,Bool.not_true,cond_false,hov,e,qcc]
 cases hb:(zaz (t.path 0 k)).2 with
 |true=>simp only [if_true];exact congrArg some (Prod.ext rfl hb.symm)
 |false=>simp only [Bool.false_eq_true,if_false];exact congrArg some (Prod.ext rfl hb.symm)
theorem zru [Dfr]:∀(t:T),t.ok→t.size≤1000000000→zgt t.row=some t.bang
 | .n0 n,hok,hl=>by
   have hkid:zff (T.n0 n).row=some []:=by
    rw [zgx _ (by rw [T.zab];exact hl)];unfold zgf;rw [qin hok];rfl
   have e:ix (T.n0 n).row 0=n:=rfl
   have e2:zaa 0 (T.n0 n).row.length=true:=rfl
   rw [zpb,hkid]
   simp only [Option.bind_some,e,e2,cond_true]
   rcases ar0 hok with h|h|h|h|h<;>rw [T.bang,h]<;>rfl
 | .n1 n a,hok,hl=>by
   have hkid:zff (T.n1 n a).row=some [a.row]:=by
    rw [zgx _ (by rw [T.zab];exact hl)];unfold zgf;rw [qin hok];rfl
   have e:ix (T.n1 n a).row 0=n:=rfl
   have e2:zaa 0 (T.n1 n a).row.length=true:=zeu (by rw [T.zab];exact T.zpv _)
   rw [zpb,hkid]
   simp only [Option.bind_some,e,e2,cond_true]
   rcases ar1 hok.1 with h|h<;>rw [T.bang,h]<;>rfl
 | .n2 n a b,hok,hl=>by
   have hkid:zff (T.n2 n a b).row=some [a.row,b.row]:=by
    rw [zgx _ (by rw [T.zab];exact hl)];unfold zgf;rw [qin hok];rfl
   have e:ix (T.n2 n a b).row 0=n:=rfl
   have e2:zaa 0 (T.n2 n a b).row.length=true:=zeu (by rw [T.zab];exact T.zpv _)
   have e3:ix [a.row,b.row] 0=a.row:=rfl
   have e4:ix [a.row,b.row] 1=b.row:=rfl
   have i0:zaa 0 [a.row,b.row].length=true:=rfl
   have i1:zaa 1 [a.row,b.row].length=true:=rfl
   simp only [T.size] at hl
   have ha:=zru a hok.2.1 (by omega)
   have hb:=zru b hok.2.2 (by omega)
   rw [zpb,hkid]
   simp only [Option.bind_some,e,e2,e3,e4,i0,i1,cond_true,ha,hb]
   rcases ar2 hok.1 with h|h|h|h|h|h|h<;>rw [T.bang,h]<;>first|rfl|(cases a.bang<;>rfl)
theorem qov [Dfr] {l:List Nd} {t:T} (ht:tree l=some t) (hl:l.length≤1000000):znh l=some (decide (l≠[]∧zbw l=l)&&t.bang):=by
 obtain ⟨hok,hrow⟩:=zht.1 ht
 have hlen:l.length=t.size:=by rw [hrow,T.zab]
 rw [qjz,zhv l (by omega)]
 by_cases hs:l≠[]∧zbw l=l
 ·rw [decide_eq_true hs]
  simp only [Option.bind_some,cond_true,Bool.true_and]
  rw [hrow,zru t hok (by omega)]
  rfl
 ·rw [decide_eq_false hs];rfl
theorem qwf [Dfr] [zcd] {l:List Nd} {t:T} (ht:tree l=some t) (hl:l.length≤1000000) (hs:l≠[]∧zbw l=l) {k:Nat} (hk:k∈t.wts 0) (dm:List Nd→Bool) (hd:∀x∈(zaz (t.path 0 k)).1,znh x=some (dm x)) (hbl:(zaz (t.path 0 k)).1.length≤1000000) :
 zqk l (k:Int)=some (!(zaz (t.path 0 k)).2||(zaz (t.path 0 k)).1.any dm):=by
 rw [qta,qot ht hl hs hk,Option.bind_some]
 cases hb:(zaz (t.path 0 k)).2 with
 |false=>rfl
 |true =>
  simp only [Bool.not_true,cond_false,Bool.false_or]
  rw [zjq _ _ dm (by omega) (fun x hx=>(qhs x).trans (hd x hx))]
  rfl
end Go.Proofs.YtjolkdjkhekbnaaGreatDoor.Sv
