/- runs.key's walk: a row's text. -/
import Derived.Test.YtjolkdjkhekbnaaGreatDoorX25
import Derived.Test.YtjolkdjkhekbnaaGreatDoorEv9
import Derived.Lib.AppendStr
import Derived.Lib.ItoaNum
import Derived.Lib.ItoaWalk
import Derived.Lib.Strings
import Derived.Lib.Hide
import Derived.Laws.BytesArg
namespace Go.Proofs.YtjolkdjkhekbnaaGreatDoor.Sv
open Go Go.Sv Go.Proofs Go.Rd Go.RowKit
set_option maxRecDepth 100000
def byV (l:List UInt8):List Value:=l.map fun b=>.int .u8 b.toNat
theorem ytd [Dfr] (s:ByteArray):Lib.strCells s=byV s.data.toList:=rfl
theorem yho [Dfr] (a b:List UInt8):byV (a++b)=byV a++byV b:=List.map_append ..
abbrev OwnB (base:Nat) (w:World) (v:Value) (l:List UInt8):Prop:=w.ownsRow base 5 1 v l.length (byV l)
theorem ycg [Dfr]:∃i:TypeInfo,Tryz.prog.info? 5=some i∧i.zero=some (.int .u8 0)∧i.size=1∧i.bytes=1 :=
 info_parts (P:=Tryz.prog) (e:=5) (z:=.int .u8 0) (size:=1) (bytes:=1) (by kernel_rfl)
theorem ycq [Dfr] {ops:Array Oper} {rest:List Oper} {o:Oper} {a:Act} {Q:Exit→Act→World→Prop} {w:World} (hgd:o.guard=none) (s x:Operand) (hop:o.op=Op.call {callee:=Callee.builtin Builtin.append,args:= #[s,x],argTypes:= #[152,9]})
 (base:Nat) (v:Value) (l:List UInt8) (t:ByteArray) (hs:a.eval s=v) (hx:a.eval x= .string t) (hown:OwnB base w v l) (hb:base≤w.heap.size) (hlim:l.length+t.data.toList.length≤1000000)
 (hK:∀v' w',OwnB base w' v' (l++t.data.toList)→Kept (fun b=>v.ownBlock=some b) w w'→wpList Tryz.prog ops Q rest (a.put o.dst v') w'):wpList Tryz.prog ops Q (o::rest) a w:=by
 obtain ⟨i,hi,hz,h1,h2⟩:=ycg
 have hsz:t.size=t.data.toList.length:=by rw [Array.length_toList];rfl
 refine wpList_plain hgd fun K hK'=> ?_
 obtain ⟨v',w',hrun,r1,r2,_⟩:=Lib.run_append_own_string (P:=Tryz.prog) w base 152 9 o.type 5 i Tryz.underlying152 Tryz.underlying9 hi hz h1 h2 v _ _ hown t (by simp only [maxLen];omega) (by omega) hb
 unfold Oper.wp
 simp [execOp,hop,resolve,invoke,builtin,hs,hx,hrun,Result.andThen]
 refine hK' _ _ (hK v' w' ?_ (zut r2 (zcb _ hrun)))
 unfold OwnB
 rw [List.length_append,yho,←ytd,←hsz]
 exact r1
theorem yfz [Dfr] {ops:Array Oper} {rest:List Oper} {o:Oper} {a:Act} {Q:Exit→Act→World→Prop} {w:World} (hgd:o.guard=none) (s x:Operand) (hop:o.op=Op.call {callee:=Callee.builtin Builtin.append,args:= #[s,x],argTypes:= #[152,152]})
 (base:Nat) (v:Value) (l:List UInt8) (b:UInt8) (ad:Addr) (c:Nat) (hs:a.eval s=v) (hx:a.eval x= .slice (some ad) 1 c) (hc:w.cell? ad=some (.int .u8 b.toNat)) (hown:OwnB base w v l) (hb:base≤w.heap.size) (hlim:l.length+1≤1000000)
 (hK:∀v' w',OwnB base w' v' (l++[b])→Kept (fun b=>v.ownBlock=some b) w w'→wpList Tryz.prog ops Q rest (a.put o.dst v') w'):wpList Tryz.prog ops Q (o::rest) a w:=by
 obtain ⟨i,hi,hz,h1,h2⟩:=ycg
 refine wpList_plain hgd fun K hK'=> ?_
 obtain ⟨v',w',hrun,r1,r2,_⟩:=run_append_own (P:=Tryz.prog) w base 152 o.type 5 i _ 1 1 Tryz.underlying152 hi hz h1 h2 rfl Nat.one_pos v _ _ hown ad 1 c [.int .u8 b.toNat] rfl (fun j u hj=>by
  match j,hj with
  |0,hj=>cases hj;simpa [Addr.add] using hc) (fun u hu=>by
  cases hu with
  |head=>rfl
  |tail _ h=>cases h) (by simp only [maxLen];omega) (by omega) hb
 unfold Oper.wp
 simp [execOp,hop,resolve,invoke,builtin,hs,hx,hrun,Result.andThen]
 refine hK' _ _ (hK v' w' ?_ (zut r2 (zcb _ hrun)))
 unfold OwnB
 rw [List.length_append,yho]
 exact r1
theorem yga [Dfr] (w:World) (b:UInt8) (n:Int) (hn:n=b.toNat):(w.alloc (.cells #[.int .u8 n] 5)).cell? ⟨w.heap.size,0,none⟩=some (.int .u8 b.toNat):=by
 subst hn
 exact zkn w _ _ 0 _ rfl
theorem yqj [Dfr] {i:Nat} (h:i<100):Lib.decDigits i=dg i:=by
 unfold dg
 split
 ·exact Lib.decDigits_one (by assumption)
 ·exact Lib.decDigits_two (by assumption) h
theorem yvs [Dfr] {x:ByteArray} {l:List UInt8} (h:x.data.toList=l):x=⟨l.toArray⟩:=by
 subst h
 cases x
 simp
set_option maxHeartbeats 2000000 in
theorem que [Dfr] (i:Nat) (h:i<100) (w:World):Calls Tryz.prog 257 #[.int .i64 i] w fun e w'=>e= .returned (.string ⟨(dg i).toArray⟩)∧w'=w:=by
 go_enter Tryz.func257,Tryz.ntmps257
 go_name_bytes_deep 45 SM hSM
 have eSM:SM=Lib.smalls:=by rw [←hSM];decide +kernel
 subst eSM
 clear hSM
 go_name_bytes_deep 30 DG hDG
 have eDG:DG=Lib.digits36:=by rw [←hDG];decide +kernel
 subst eDG
 clear hDG
 by_cases h10:i<10
 ·have hsl:∀w,(Instr.slice 9 (.string Lib.digits36) (some (.int .i64 (i:Int))) (some (.int .i64 ((i:Int)+1))) none).run Tryz.prog w= .ok (.string (Lib.digits36.extract i (i+1))) w:=fun w=>by
   rw [run_slice_string w 9 Lib.digits36 .i64 .i64 _ _ Tryz.underlying9 (by omega) (by omega) (by rw [Lib.digits36_size];omega),show ((i:Int)).toNat=i by omega,show ((i:Int)+1).toNat=i+1 by omega]
  go_wp2
  go_ret
  refine ⟨?_,rfl⟩
  show Ending.returned (Value.string (Lib.digits36.extract i (i+1)))=_
  rw [yvs (x:=Lib.digits36.extract i (i+1)) (l:=dg i) (by rw [Lib.extract_data,←yqj h];exact Lib.digits36_piece h10)]
 ·have hsl:∀w,(Instr.slice 9 (.string Lib.smalls) (some (.int .i64 ((i:Int)*2))) (some (.int .i64 ((i:Int)*2+2))) none).run Tryz.prog w= .ok (.string (Lib.smalls.extract (i*2) (i*2+2))) w:=fun w=>by
   rw [run_slice_string w 9 Lib.smalls .i64 .i64 _ _ Tryz.underlying9 (by omega) (by omega) (by rw [Lib.smalls_size];omega),show ((i:Int)*2).toNat=i*2 by omega,show ((i:Int)*2+2).toNat=i*2+2 by omega]
  go_wp2
  go_ret
  refine ⟨?_,rfl⟩
  show Ending.returned (Value.string (Lib.smalls.extract (i*2) (i*2+2)))=_
  rw [yvs (x:=Lib.smalls.extract (i*2) (i*2+2)) (l:=dg i) (by rw [Lib.extract_data,←yqj h];exact Lib.smalls_piece h10 h)]
def AppI (f:Nat) (k:IntKind):Prop:=∀(i:Nat),i<100→∀(w:World) (base:Nat) (v:Value) (l:List UInt8),base≤w.heap.size→OwnB base w v l→l.length≤900000→
 Calls Tryz.prog f #[v,.int k i,.int .i64 10] w fun e w'=>∃v',e= .returned v'∧OwnB base w' v' (l++dg i)∧Kept (fun b=>v.ownBlock=some b) w w'
theorem qtb [Dfr] {i:Nat}:(dg i).length≤2:=by
 unfold dg;split<;>simp
set_option maxHeartbeats 2000000 in
theorem appU [Dfr]:AppI 247 .u64:=by
 intro i hi w base v l hb hown hl
 have hd:=qtb (i:=i)
 go_enter Tryz.func247,Tryz.ntmps247
 go_wp2_with (go_at_fn 257)
 refine (que i hi _).mono ?_
 rintro e w1 ⟨rfl,rfl⟩
 go_wp2_with (at_builtin;refine ycq rfl _ _ rfl base v l _ rfl rfl hown hb (by show l.length+(dg i).length≤_;omega) ?_;intro v' w' hown' hk')
 go_wp2
 go_ret
 exact ⟨v',rfl,hown',hk'⟩
set_option maxHeartbeats 2000000 in
theorem appS [Dfr]:AppI 206 .i64:=by
 intro i hi w base v l hb hown hl
 go_enter Tryz.func206,Tryz.ntmps206
 go_wp2_with (go_at_fn 247)
 refine (appU i hi w base v l hb hown hl).mono ?_
 rintro e w1 ⟨v',rfl,hown',hk'⟩
 go_wp2
 go_ret
 exact ⟨v',rfl,hown',hk'⟩
set_option maxHeartbeats 2000000 in
theorem appI [Dfr]:AppI 141 .i64:=by
 intro i hi w base v l hb hown hl
 go_enter Tryz.func141,Tryz.ntmps141
 go_wp2_with (go_at_fn 206)
 refine (appS i hi w base v l hb hown hl).mono ?_
 rintro e w1 ⟨v',rfl,hown',hk'⟩
 go_wp2
 go_ret
 exact ⟨v',rfl,hown',hk'⟩
theorem qar [Dfr] {base:Nat} {w:World} {v:Value} {l:List UInt8} (h:OwnB base w v l) {g:Nat} (hg:v.ownBlock=some g):base≤g∧∃cur,w.heap[g]? =some (.cells cur 5 (0,0)):=by
 rcases h.2 with ⟨rfl,_⟩|⟨g',cap,cur,rfl,h1,h2,_⟩
 ·cases hg
 ·cases hg
  exact ⟨h1,cur,h2⟩
theorem ynk [Dfr] {base:Nat} {w:World} {v:Value} {l:List UInt8} (h:OwnB base w v l):(convert 152 9 v).run Tryz.prog w= .ok (.string ⟨l.toArray⟩) w:=by
 obtain ⟨h0,h1⟩:=h
 rcases h1 with ⟨rfl,h1⟩|⟨g,cap,cur,rfl,_,hh,hn,_,hc,ht⟩
 ·have:l=[]:=List.eq_nil_of_length_eq_zero h1
  subst this
  exact run_convert_bytes_nil (P:=Tryz.prog) w 152 5 Tryz.underlying152 Tryz.underlying5 0 0 9 Tryz.underlying9
 ·have:=run_convert_bytes_arg (P:=Tryz.prog) w 152 5 Tryz.underlying152 Tryz.underlying5 g 0 l.length cap (l.map fun b=>(b.toNat:Int)) (by simp) (fun i hi=>by
   have h3:(byV l)[i]? =some (.int .u8 l[i].toNat):=by unfold byV;simp [hi]
   rw [←ht,List.getElem?_take,if_pos (by omega),Array.getElem?_toList] at h3
   rw [cell_of_block hh,Nat.zero_add,h3]
   simp [List.getD,hi]) 9 Tryz.underlying9
  rw [this]
  congr 2
  unfold strOfNums
  congr 2
  rw [List.map_map]
  refine (List.map_congr_left fun b _=> ?_).trans (List.map_id l)
  show UInt8.ofNat ((b.toNat:Int)).toNat=b
  rw [Int.toNat_natCast]
  exact UInt8.ofNat_toNat
theorem ywk [Dfr] [zcx] {F:Nat→Prop} {W:World} {xs:List Nd} {s:Option Addr} {c:Nat} (h:Cl F W (.slice 68 NdY) xs [.slice s xs.length c]) {k:Nat} (hk:k<xs.length) :
 ∃ab ao,(∀W':World,(Instr.indexAt 22 (.slice s xs.length c) (.int .i64 (k:Int))).run Tryz.prog W'= .ok (.pointer (some ⟨ab,ao,none⟩)) W')∧¬F ab∧W.cell? ⟨ab,ao,none⟩=some (.int .i64 xs[k].1)∧W.cell? ⟨ab,ao+1,none⟩=some (.string xs[k].2.1)∧W.cell? ⟨ab,ao+2,none⟩=some (.int .i64 xs[k].2.2):=by
 obtain ⟨ab,ao,ds,h1,h2,h3,h4⟩:=ydu (t:=22) rfl rfl rfl rfl h hk
 rw [Cl] at h3
 obtain ⟨c1,c2,rfl,e1,e2⟩:=h3
 have e1:c1=[.int .i64 xs[k].1]:=e1
 obtain ⟨c3,c4,rfl,e3,e4⟩:=e2
 have e3:c3=[.string xs[k].2.1]:=e3
 have e4:c4=[.int .i64 xs[k].2.2]:=e4
 subst e1
 subst e3
 subst e4
 exact ⟨ab,ao,h1,h2,h4 0 _ rfl,h4 1 _ rfl,h4 2 _ rfl⟩
theorem qxz [Dfr] {n:Nd} (h:right n=true):n.2.1.data.toList.length≤8:=by
 unfold right at h
 split at h
 ·simp only [Bool.and_eq_true,decide_eq_true_eq,qjn] at h
  have:=h.1.2.1
  rw [Array.length_toList]
  exact this
 ·split at h
  ·simp only [Bool.and_eq_true,decide_eq_true_eq] at h
   rw [h.1];decide
  ·simp only [Bool.and_eq_true,decide_eq_true_eq] at h
   rw [h.2.1];decide
theorem ymw [Dfr] {n:Nd} (h:right n=true):(keyN n).length≤14:=by
 have h1:=qtb (i:=n.1.toNat)
 have h2:=qtb (i:=n.2.2.toNat)
 have h3:=qxz h
 unfold keyN
 simp only [List.length_append,List.length_cons,List.length_nil]
 omega
theorem qyg [Dfr]:∀{l:List Nd},(∀n∈l,right n=true)→(keyL l).length≤l.length*14
 |[],_=>Nat.le_refl _
 |n::l,h=>by
  have h1:=ymw (h n (List.mem_cons_self ..))
  have h2:=qyg fun m hm=>h m (List.mem_cons_of_mem _ hm)
  have e:keyL (n::l)=keyN n++keyL l:=List.flatMap_cons
  rw [e,List.length_append,List.length_cons]
  omega
theorem ytf [Dfr] {base B:Nat} {w:World} {v:Value} {l:List UInt8} {cs:Array Value} (h:OwnB base w v l) (hB:w.heap[B]? =some (.cells cs 68 (0,0))):¬v.ownBlock=some B:=fun hg=>by
 obtain ⟨_,cur,hc⟩:=qar h hg
 rw [hB] at hc
 injection hc with hc
 injection hc with _ hc
 cases hc
theorem qph [Dfr] {base B:Nat} {w w':World} {v:Value} {l:List UInt8} {cs:Array Value} (h:OwnB base w v l) (hB:w.heap[B]? =some (.cells cs 68 (0,0))) (hk:Kept (fun b=>v.ownBlock=some b) w w'):w'.heap[B]? =some (.cells cs 68 (0,0)) :=
 (hk.block B (Array.getElem?_eq_some_iff.1 hB).1 (ytf h hB)).trans hB
theorem qgn [Dfr] {base:Nat} {w w':World} {v:Value} {l:List UInt8} (h:OwnB base w v l) (hk:Kept (fun _=>False) w w'):OwnB base w' v l:=zex h hk fun _ _=>id
set_option maxHeartbeats 6400000 in
theorem yuy [Dfr] [zcx]:yvx:=by
 intro n hfn hsz w F v hF hg hc
 obtain ⟨s,c,rfl⟩:=zca hc
 have hlen:n.row.length≤200:=by rw [Tm.zab];omega
 have hr:=zjc hfn
 go_enter Tryz.func84,Tryz.ntmps84
 go_wp2
 have hk0:Kept (fun b=>w.heap.size≤b) w (w.alloc (.cells #[] 5)):=zjh (zbi w _)
 have hown0:OwnB w.heap.size (w.alloc (.cells #[] 5)) (.slice (some ⟨w.heap.size,0,none⟩) 0 0) [] :=
  ⟨rfl,.inr ⟨w.heap.size,0,#[],rfl,Nat.le_refl _,zgr w _,Nat.le_refl _,by decide,rfl,rfl⟩⟩
 go_loopw [3,9] (fun v3 v9 wr=>∃k:Nat,v9= .int .i64 (k:Int)∧k≤n.row.length∧OwnB w.heap.size wr v3 (keyL (n.row.take k))∧Kept (fun b=>w.heap.size≤b) w wr) (fun _ v9 _=>n.row.length-(intOf v9).toNat)
 case atStart =>
  exact ⟨0,rfl,Nat.zero_le _,hown0,hk0⟩
 case round =>
  obtain ⟨k,rfl,hk,hown,hkr⟩:=hrel
  have hbs:=hkr.size
  by_cases hlt:k<n.row.length
  ·obtain ⟨ab,ao,hix,hab,hc0,hc1,hc2⟩:=ywk (hc.step ⟨fun b hb hl=>hkr.block b hl (by omega),fun b h=>.inl h⟩) hlt
   obtain ⟨nd,hnd⟩:∃nd,n.row[k]=nd:=⟨_,rfl⟩
   have hmem:nd∈n.row:=hnd▸List.getElem_mem hlt
   obtain ⟨b1,b2,b3,b4,b5⟩:=zwr (hr nd hmem)
   have hdrop:n.row.take (k+1)=n.row.take k++[nd]:=by
    rw [List.take_add_one,List.getElem?_eq_getElem hlt,hnd];rfl
   rw [hnd] at hc0 hc1 hc2
   obtain ⟨kd,nm,sg⟩:=nd
   obtain ⟨i,rfl⟩:∃i:Nat,kd=i:=⟨kd.toNat,by simp only at b1;omega⟩
   obtain ⟨j,rfl⟩:∃j:Nat,sg=j:=⟨sg.toNat,by simp only at b3;omega⟩
   simp only at hc0 hc1 hc2 b2 b4
   have hkl:(keyL (n.row.take k)).length≤100000:=by
    have h1:=qyg (l:=n.row.take k) fun m hm=>hr m (List.mem_of_mem_take hm)
    have h2:(n.row.take k).length≤n.row.length:=by rw [List.length_take];omega
    exact Nat.le_trans h1 (by omega)
   have hnm:=qxz (hr _ hmem)
   have hd1:=qtb (i:=i)
   have hd2:=qtb (i:=j)
   simp only at hnm
   obtain ⟨K,hK⟩:∃K,keyL (n.row.take k)=K:=⟨_,rfl⟩
   rw [hK] at hown hkl
   have hL1:(K++dg i).length+nm.data.toList.length≤1000000:=by simp only [List.length_append];omega
   have hL2:(K++dg i++nm.data.toList).length+1≤1000000:=by simp only [List.length_append];omega
   have hL3:(K++dg i++nm.data.toList++[58]).length≤900000:=by simp only [List.length_append,List.length_cons,List.length_nil];omega
   have hL4:(K++dg i++nm.data.toList++[58]++dg j).length+1≤1000000:=by simp only [List.length_append,List.length_cons,List.length_nil];omega
   go_wp2_with (go_at_fn 141)
   obtain ⟨WB,hWB⟩:∃WB,wr.alloc (Obj.cells #[Value.int IntKind.i64 i,Value.string nm,Value.int IntKind.i64 j] 68)=WB:=⟨_,rfl⟩
   have kB:Kept (fun _=>False) wr WB:=hWB▸zbi wr _
   have hBx:WB.heap[wr.heap.size]? =some (.cells #[.int .i64 i,.string nm,.int .i64 j] 68 (0,0)):=by rw [←hWB];exact zgr wr _
   have hownB:=qgn hown kB
   rw [hWB]
   clear hWB hix hc0 hc1 hc2
   have kkB:Kept (fun b=>w.heap.size≤b) w WB:=hkr.trans kB fun _ h=>h.elim
   refine (appI i (by omega) WB w.heap.size u3 _ kkB.size hownB (by omega)).mono ?_
   rintro e w1 ⟨v1,rfl,hown1,hk1⟩
   have hB1:=qph hownB hBx hk1
   have kk1:Kept (fun b=>w.heap.size≤b) w w1:=kkB.trans hk1 fun x h=>.inl (qar hownB h).1
   have c1:w1.cell? ⟨wr.heap.size,1,none⟩=some (.string nm):=by rw [cell_of_block hB1];rfl
   clear hBx hownB hk1
   go_wp2_with (first
    |(at_builtin;go_loud (refine ycq rfl _ _ rfl w.heap.size v1 _ nm rfl rfl hown1 kk1.size hL1 ?_);intro v2 w2 hown2 hk2;have hB2:=qph hown1 hB1 hk2;have kk2:Kept (fun b=>w.heap.size≤b) w w2:=kk1.trans hk2 fun x h=>.inl (qar hown1 h).1;clear hB1 hown1 hk2 c1)
    |(at_builtin;have kb:=zbi w2 (Obj.cells #[Value.int IntKind.u8 58] 5);have kkb:Kept (fun b=>w.heap.size≤b) w (w2.alloc (Obj.cells #[Value.int IntKind.u8 58] 5)):=kk2.trans kb (fun _ h=>h.elim);have hown3:=qgn hown2 kb;have hB3:=(kb.block _ (Array.getElem?_eq_some_iff.1 hB2).1 id).trans hB2;have hsz3:=kkb.size;have hbx:=yga w2 58 58 rfl;go_loud (refine yfz rfl _ _ rfl w.heap.size v2 (K++dg i++nm.data.toList) 58 ⟨w2.heap.size,0,none⟩ 1 rfl rfl hbx hown3 hsz3 hL2 ?_);intro v4 w4 hown4 hk4;have hB4:=qph hown3 hB3 hk4;have kk4:Kept (fun b=>w.heap.size≤b) w w4:=kkb.trans hk4 (fun x h=>.inl (qar hown3 h).1);have c2:w4.cell? ⟨wr.heap.size,2,none⟩=some (.int .i64 j):=(by rw [cell_of_block hB4];rfl);clear hB2 hB3 hown2 hown3 hk4 hbx kb))
   refine (appI j (by omega) w4 w.heap.size v4 _ kk4.size hown4 hL3).mono ?_
   rintro e w5 ⟨v5,rfl,hown5,hk5⟩
   have kk5:Kept (fun b=>w.heap.size≤b) w w5:=kk4.trans hk5 fun x h=>.inl (qar hown4 h).1
   go_wp2_with (at_builtin;have kb:=zbi w5 (Obj.cells #[Value.int IntKind.u8 32] 5);have kkb:Kept (fun b=>w.heap.size≤b) w (w5.alloc (Obj.cells #[Value.int IntKind.u8 32] 5)):=kk5.trans kb (fun _ h=>h.elim);have hown6:=qgn hown5 kb;have hsz3:=kkb.size;have hbx:=yga w5 32 32 rfl;go_loud (refine yfz rfl _ _ rfl w.heap.size v5 (K++dg i++nm.data.toList++[58]++dg j) 32 ⟨w5.heap.size,0,none⟩ 1 rfl rfl hbx hown6 hsz3 hL4 ?_);intro v7 w7 hown7 hk7;have kk7:Kept (fun b=>w.heap.size≤b) w w7:=kkb.trans hk7 (fun x h=>.inl (qar hown6 h).1))
   go_wp2
   refine ⟨⟨k+1,by go_num,by omega,?_,kk7⟩,by simp [intOf];omega⟩
   rw [hdrop]
   have e1:keyL (n.row.take k++[((i:Int),nm,(j:Int))])=K++dg i++nm.data.toList++[58]++dg j++[32]:=by
    unfold keyL at hK ⊢
    rw [List.flatMap_append,hK,List.flatMap_cons,List.flatMap_nil,List.append_nil]
    unfold keyN
    simp only [Int.toNat_natCast,List.append_assoc,List.cons_append,List.nil_append]
   rw [e1]
   exact hown7
  ·have hke:k=n.row.length:=by omega
   subst hke
   rw [List.take_length] at hown
   have hcv:=ynk hown
   go_wp2
   go_ret
   exact ⟨rfl,hkr.yjq fun b h1 h2=>by omega⟩
end Go.Proofs.YtjolkdjkhekbnaaGreatDoor.Sv
