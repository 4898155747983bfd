/- runs.key's walk: a row's text. -/
import Derived.Test.YtjolkdjkhekbnaaGreatDoorL02
import Derived.Lib.AppendStr
import Derived.Lib.ItoaNum
import Derived.Lib.ItoaWalk
set_option linter.unusedVariables false
set_option linter.unusedSimpArgs false
namespace Go.Proofs.YtjolkdjkhekbnaaGreatDoor.Sv
open Go Go.Sv Go.Proofs Go.Rd Go.RowKit
set_option maxRecDepth 100000
def byV (l:List UInt8):List Value:=l.map fun b=>.int .u8 b.toNat
theorem xik [Dfr] (s:ByteArray):Lib.strCells s=byV s.data.toList:=rfl
theorem yxi [Dfr] (a b:List UInt8):byV (a++b)=byV a++byV b:=List.map_append ..
abbrev OwnB (base:Nat) (w:World) (v:Value) (l:List UInt8):Prop:=w.ownsRow base 5 1 v l.length (byV l)
theorem ysd [Dfr]:∃i:TypeInfo,Tryz.prog.info? 5=some i∧i.zero=some (.int .u8 0)∧i.size=1∧i.bytes=1:=
 info_parts (P:=Tryz.prog) (e:=5) (z:=.int .u8 0) (size:=1) (bytes:=1) (by kernel_rfl)
theorem ysn [Dfr] {ops:Array Oper} {rest:List Oper} {o:Oper} {a:Act} {Q:Exit→Act→World→Prop} {w:World} (hgd:o.guard=none) (s x:Operand) (hop:o.op=Op.call {callee:=Callee.builtin Builtin.append,args:= #[s,x],argTypes:= #[152,9]})
 (base:Nat) (v:Value) (l:List UInt8) (t:ByteArray) (hs:a.eval s=v) (hx:a.eval x= .string t) (hown:OwnB base w v l) (hb:base≤w.heap.size) (hlim:l.length+t.data.toList.length≤1000000)
 (hK:∀v' w',OwnB base w' v' (l++t.data.toList)→Kept (fun b=>v.ownBlock=some b) w w'→wpList Tryz.prog ops Q rest (a.put o.dst v') w'):wpList Tryz.prog ops Q (o::rest) a w:=by
 obtain ⟨i,hi,hz,h1,h2⟩:=ysd;have hsz:t.size=t.data.toList.length:=by rw [Array.length_toList];rfl
 refine wpList_plain hgd fun K hK'=> ?_
 obtain ⟨v',w',hrun,r1,r2,_⟩:=Lib.run_append_own_string (P:=Tryz.prog) w base 152 9 o.type 5 i Tryz.underlying152 Tryz.underlying9 hi hz h1 h2 v _ _ hown t (by simp only [maxLen];omega) (by omega) hb;unfold Oper.wp;simp [execOp,hop,resolve,invoke,builtin,hs,hx,hrun,Result.andThen];refine hK' _ _ (hK v' w' ?_ (qea r2 (zeo _ hrun)));unfold OwnB;rw [List.length_append,yxi,←xik,←hsz];exact r1
theorem yvt [Dfr] {ops:Array Oper} {rest:List Oper} {o:Oper} {a:Act} {Q:Exit→Act→World→Prop} {w:World} (hgd:o.guard=none) (s x:Operand) (hop:o.op=Op.call {callee:=Callee.builtin Builtin.append,args:= #[s,x],argTypes:= #[152,152]})
 (base:Nat) (v:Value) (l:List UInt8) (b:UInt8) (ad:Addr) (c:Nat) (hs:a.eval s=v) (hx:a.eval x= .slice (some ad) 1 c) (hc:w.cell? ad=some (.int .u8 b.toNat)) (hown:OwnB base w v l) (hb:base≤w.heap.size) (hlim:l.length+1≤1000000)
 (hK:∀v' w',OwnB base w' v' (l++[b])→Kept (fun b=>v.ownBlock=some b) w w'→wpList Tryz.prog ops Q rest (a.put o.dst v') w'):wpList Tryz.prog ops Q (o::rest) a w:=by
 obtain ⟨i,hi,hz,h1,h2⟩:=ysd;refine wpList_plain hgd fun K hK'=> ?_
 obtain ⟨v',w',hrun,r1,r2,_⟩:=run_append_own (P:=Tryz.prog) w base 152 o.type 5 i _ 1 1 Tryz.underlying152 hi hz h1 h2 rfl Nat.one_pos v _ _ hown ad 1 c [.int .u8 b.toNat] rfl (fun j u hj=>by
  match j,hj with
  |0,hj=>cases hj;simpa [Addr.add] using hc) (fun u hu=>by
  cases hu with
  |head=>rfl
  |tail _ h=>cases h) (by simp only [maxLen];omega) (by omega) hb
 unfold Oper.wp;simp [execOp,hop,resolve,invoke,builtin,hs,hx,hrun,Result.andThen];refine hK' _ _ (hK v' w' ?_ (qea r2 (zeo _ hrun)));unfold OwnB;rw [List.length_append,yxi];exact r1
theorem yvu [Dfr] (w:World) (b:UInt8) (n:Int) (hn:n=b.toNat):(w.alloc (.cells #[.int .u8 n] 5)).cell? ⟨w.heap.size,0,none⟩=some (.int .u8 b.toNat):=by subst hn;exact zpu w _ _ 0 _ rfl
theorem xfn [Dfr] {i:Nat} (h:i<100):Lib.decDigits i=dg i:=by
 unfold dg;split
 ·exact Lib.decDigits_one (by assumption)
 ·exact Lib.decDigits_two (by assumption) h
theorem xkx [Dfr] {x:ByteArray} {l:List UInt8} (h:x.data.toList=l):x=⟨l.toArray⟩:=by subst h;cases x;simp
set_option maxHeartbeats 2000000 in
theorem yje [Dfr] (i:Nat) (h:i<100) (w:World):Calls Tryz.prog 257 #[.int .i64 i] w fun e w'=>e= .returned (.string ⟨(dg i).toArray⟩)∧w'=w:=by
 go_enter Tryz.func257,Tryz.ntmps257;go_name_bytes_deep 45 SM hSM;have eSM:SM=Lib.smalls:=by rw [←hSM];decide +kernel
 subst eSM;clear hSM;go_name_bytes_deep 30 DG hDG;have eDG:DG=Lib.digits36:=by rw [←hDG];decide +kernel
 subst eDG;clear hDG;by_cases h10:i<10
 ·have hsl:∀w,(Instr.slice 9 (.string Lib.digits36) (some (.int .i64 (i:Int))) (some (.int .i64 ((i:Int)+1))) none).run Tryz.prog w= .ok (.string (Lib.digits36.extract i (i+1))) w:=fun w=>by rw [run_slice_string w 9 Lib.digits36 .i64 .i64 _ _ Tryz.underlying9 (by omega) (by omega) (by rw [Lib.digits36_size];omega),show ((i:Int)).toNat=i by omega,show ((i:Int)+1).toNat=i+1 by omega]
  go_wp2;go_ret;refine ⟨?_,rfl⟩;show Ending.returned (Value.string (Lib.digits36.extract i (i+1)))=_;rw [xkx (x:=Lib.digits36.extract i (i+1)) (l:=dg i) (by rw [Lib.extract_data,←xfn h];exact Lib.digits36_piece h10)]
 ·have hsl:∀w,(Instr.slice 9 (.string Lib.smalls) (some (.int .i64 ((i:Int)*2))) (some (.int .i64 ((i:Int)*2+2))) none).run Tryz.prog w= .ok (.string (Lib.smalls.extract (i*2) (i*2+2))) w:=fun w=>by rw [run_slice_string w 9 Lib.smalls .i64 .i64 _ _ Tryz.underlying9 (by omega) (by omega) (by rw [Lib.smalls_size];omega),show ((i:Int)*2).toNat=i*2 by omega,show ((i:Int)*2+2).toNat=i*2+2 by omega]
  go_wp2;go_ret;refine ⟨?_,rfl⟩;show Ending.returned (Value.string (Lib.smalls.extract (i*2) (i*2+2)))=_;rw [xkx (x:=Lib.smalls.extract (i*2) (i*2+2)) (l:=dg i) (by rw [Lib.extract_data,←xfn h];exact Lib.smalls_piece h10 h)]
def AppI (f:Nat) (k:IntKind):Prop:=∀(i:Nat),i<100→∀(w:World) (base:Nat) (v:Value) (l:List UInt8),base≤w.heap.size→OwnB base w v l→l.length≤900000→
 Calls Tryz.prog f #[v,.int k i,.int .i64 10] w fun e w'=>∃v',e= .returned v'∧OwnB base w' v' (l++dg i)∧Kept (fun b=>v.ownBlock=some b) w w'
theorem yhx [Dfr] {i:Nat}:(dg i).length≤2:=by unfold dg;split<;>simp
set_option maxHeartbeats 2000000 in
theorem appU [Dfr]:AppI 247 .u64:=by intro i hi w base v l hb hown hl;have hd:=yhx (i:=i);go_enter Tryz.func247,Tryz.ntmps247;go_wp2_with (go_at_fn 257);refine (yje i hi _).mono ?_;rintro e w1 ⟨rfl,rfl⟩;go_wp2_with (at_builtin;refine ysn rfl _ _ rfl base v l _ rfl rfl hown hb (by show l.length+(dg i).length≤_;omega) ?_;intro v' w' hown' hk');go_wp2;go_ret;exact ⟨v',rfl,hown',hk'⟩
set_option maxHeartbeats 2000000 in
theorem appS [Dfr]:AppI 206 .i64:=by intro i hi w base v l hb hown hl;go_enter Tryz.func206,Tryz.ntmps206;go_wp2_with (go_at_fn 247);refine (appU i hi w base v l hb hown hl).mono ?_;rintro e w1 ⟨v',rfl,hown',hk'⟩;go_wp2;go_ret;exact ⟨v',rfl,hown',hk'⟩
set_option maxHeartbeats 2000000 in
theorem appI [Dfr]:AppI 141 .i64:=by intro i hi w base v l hb hown hl;go_enter Tryz.func141,Tryz.ntmps141;go_wp2_with (go_at_fn 206);refine (appS i hi w base v l hb hown hl).mono ?_;rintro e w1 ⟨v',rfl,hown',hk'⟩;go_wp2;go_ret;exact ⟨v',rfl,hown',hk'⟩
theorem qlf [Dfr] {base:Nat} {w:World} {v:Value} {l:List UInt8} (h:OwnB base w v l) {g:Nat} (hg:v.ownBlock=some g):base≤g∧∃cur,w.heap[g]? =some (.cells cur 5 (0,0)):=by
 rcases h.2 with ⟨rfl,_⟩|⟨g',cap,cur,rfl,h1,h2,_⟩
 ·cases hg
 ·cases hg;exact ⟨h1,cur,h2⟩
theorem xcw [Dfr] {base:Nat} {w:World} {v:Value} {l:List UInt8} (h:OwnB base w v l):(convert 152 9 v).run Tryz.prog w= .ok (.string ⟨l.toArray⟩) w:=by
 obtain ⟨h0,h1⟩:=h;rcases h1 with ⟨rfl,h1⟩|⟨g,cap,cur,rfl,_,hh,hn,_,hc,ht⟩
 ·have:l=[]:=List.eq_nil_of_length_eq_zero h1;subst this;exact run_convert_bytes_nil (P:=Tryz.prog) w 152 5 Tryz.underlying152 Tryz.underlying5 0 0 9 Tryz.underlying9
 ·have:=run_convert_bytes_arg (P:=Tryz.prog) w 152 5 Tryz.underlying152 Tryz.underlying5 g 0 l.length cap (l.map fun b=>(b.toNat:Int)) (by simp) (fun i hi=>by
   have h3:(byV l)[i]? =some (.int .u8 l[i].toNat):=by unfold byV;simp [hi]
   rw [←ht,List.getElem?_take,if_pos (by omega),Array.getElem?_toList] at h3;rw [cell_of_block hh,Nat.zero_add,h3];simp [List.getD,hi]) 9 Tryz.underlying9
  rw [this]
  congr 2
  unfold strOfNums
  congr 2
  rw [List.map_map];refine (List.map_congr_left fun b _=> ?_).trans (List.map_id l);show UInt8.ofNat ((b.toNat:Int)).toNat=b;rw [Int.toNat_natCast];exact UInt8.ofNat_toNat
theorem xll [Dfr] [zfm] {F:Nat→Prop} {W:World} {xs:List Nd} {s:Option Addr} {c:Nat} (h:Cl F W (.slice 68 NdY) xs [.slice s xs.length c]) {k:Nat} (hk:k<xs.length):
 ∃ab ao,(∀W':World,(Instr.indexAt 22 (.slice s xs.length c) (.int .i64 (k:Int))).run Tryz.prog W'= .ok (.pointer (some ⟨ab,ao,none⟩)) W')∧¬F ab∧W.cell? ⟨ab,ao,none⟩=some (.int .i64 xs[k].1)∧W.cell? ⟨ab,ao+1,none⟩=some (.string xs[k].2.1)∧W.cell? ⟨ab,ao+2,none⟩=some (.int .i64 xs[k].2.2):=by
 obtain ⟨ab,ao,ds,h1,h2,h3,h4⟩:=yts (t:=22) rfl rfl rfl rfl h hk;rw [Cl] at h3;obtain ⟨c1,c2,rfl,e1,e2⟩:=h3;have e1:c1=[.int .i64 xs[k].1]:=e1;obtain ⟨c3,c4,rfl,e3,e4⟩:=e2;have e3:c3=[.string xs[k].2.1]:=e3;have e4:c4=[.int .i64 xs[k].2.2]:=e4;subst e1;subst e3;subst e4;exact ⟨ab,ao,h1,h2,h4 0 _ rfl,h4 1 _ rfl,h4 2 _ rfl⟩
theorem ynk [Dfr] {n:Nd} (h:right n=true):n.2.1.data.toList.length≤8:=by
 unfold right at h;split at h
 ·simp only [Bool.and_eq_true,decide_eq_true_eq,qoa] at h;have:=h.1.2.1;rw [Array.length_toList];exact this
 ·split at h
  ·simp only [Bool.and_eq_true,decide_eq_true_eq] at h;rw [h.1];decide
  ·simp only [Bool.and_eq_true,decide_eq_true_eq] at h;rw [h.2.1];decide
theorem xcf [Dfr] {n:Nd} (h:right n=true):(keyN n).length≤14:=by have h1:=yhx (i:=n.1.toNat);have h2:=yhx (i:=n.2.2.toNat);have h3:=ynk h;unfold keyN;simp only [List.length_append,List.length_cons,List.length_nil];omega
theorem ynt [Dfr]:∀{l:List Nd},(∀n∈l,right n=true)→(keyL l).length≤l.length*14
 |[],_=>Nat.le_refl _
 |n::l,h=>by
  have h1:=xcf (h n (List.mem_cons_self ..));have h2:=ynt fun m hm=>h m (List.mem_cons_of_mem _ hm)
  have e:keyL (n::l)=keyN n++keyL l:=List.flatMap_cons;rw [e,List.length_append,List.length_cons];omega
theorem xim [Dfr] {base B:Nat} {w:World} {v:Value} {l:List UInt8} {cs:Array Value} (h:OwnB base w v l) (hB:w.heap[B]? =some (.cells cs 68 (0,0))):¬v.ownBlock=some B:=fun hg=>by obtain ⟨_,cur,hc⟩:=qlf h hg;rw [hB] at hc;injection hc with hc;injection hc with _ hc;cases hc
theorem ydj [Dfr] {base B:Nat} {w w':World} {v:Value} {l:List UInt8} {cs:Array Value} (h:OwnB base w v l) (hB:w.heap[B]? =some (.cells cs 68 (0,0))) (hk:Kept (fun b=>v.ownBlock=some b) w w'):w'.heap[B]? =some (.cells cs 68 (0,0)):=
 (hk.block B (Array.getElem?_eq_some_iff.1 hB).1 (xim h hB)).trans hB
theorem qsh [Dfr] {base:Nat} {w w':World} {v:Value} {l:List UInt8} (h:OwnB base w v l) (hk:Kept (fun _=>False) w w'):OwnB base w' v l:=zis h hk fun _ _=>id
set_option maxHeartbeats 6400000 in
theorem xkg [Dfr] [zfm]:xlc:=by
 intro n hfn hsz w F v hF hg hc;obtain ⟨s,c,rfl⟩:=zen hc;have hlen:n.row.length≤200:=by rw [Tm.zab];omega
 have hr:=zlh hfn;go_enter Tryz.func84,Tryz.ntmps84;go_wp2;have hk0:Kept (fun b=>w.heap.size≤b) w (w.alloc (.cells #[] 5)):=zof (zcz w _);have hown0:OwnB w.heap.size (w.alloc (.cells #[] 5)) (.slice (some ⟨w.heap.size,0,none⟩) 0 0) []:=
  ⟨rfl,.inr ⟨w.heap.size,0,#[],rfl,Nat.le_refl _,zkz w _,Nat.le_refl _,by decide,rfl,rfl⟩⟩
 go_loopw [3,9] (fun v3 v9 wr=>∃k:Nat,v9= .int .i64 (k:Int)∧k≤n.row.length∧OwnB w.heap.size wr v3 (keyL (n.row.take k))∧Kept (fun b=>w.heap.size≤b) w wr) (fun _ v9 _=>n.row.length-(intOf v9).toNat)
 case atStart=>exact ⟨0,rfl,Nat.zero_le _,hown0,hk0⟩
 case round=>
  obtain ⟨k,rfl,hk,hown,hkr⟩:=hrel;have hbs:=hkr.size;by_cases hlt:k<n.row.length
  ·obtain ⟨ab,ao,hix,hab,hc0,hc1,hc2⟩:=xll (hc.step ⟨fun b hb hl=>hkr.block b hl (by omega),fun b h=>.inl h⟩) hlt;obtain ⟨nd,hnd⟩:∃nd,n.row[k]=nd:=⟨_,rfl⟩;have hmem:nd∈n.row:=hnd▸List.getElem_mem hlt;obtain ⟨b1,b2,b3,b4,b5⟩:=qgh (hr nd hmem);have hdrop:n.row.take (k+1)=n.row.take k++[nd]:=by rw [List.take_add_one,List.getElem?_eq_getElem hlt,hnd];rfl
   rw [hnd] at hc0 hc1 hc2;obtain ⟨kd,nm,sg⟩:=nd;obtain ⟨i,rfl⟩:∃i:Nat,kd=i:=⟨kd.toNat,by simp only at b1;omega⟩;obtain ⟨j,rfl⟩:∃j:Nat,sg=j:=⟨sg.toNat,by simp only at b3;omega⟩;simp only at hc0 hc1 hc2 b2 b4;have hkl:(keyL (n.row.take k)).length≤100000:=by
    have h1:=ynt (l:=n.row.take k) fun m hm=>hr m (List.mem_of_mem_take hm)
    have h2:(n.row.take k).length≤n.row.length:=by rw [List.length_take];omega
    exact Nat.le_trans h1 (by omega)
   have hnm:=ynk (hr _ hmem);have hd1:=yhx (i:=i);have hd2:=yhx (i:=j);simp only at hnm;obtain ⟨K,hK⟩:∃K,keyL (n.row.take k)=K:=⟨_,rfl⟩;rw [hK] at hown hkl;have hL1:(K++dg i).length+nm.data.toList.length≤1000000:=by simp only [List.length_append];omega
   have hL2:(K++dg i++nm.data.toList).length+1≤1000000:=by simp only [List.length_append];omega
   have hL3:(K++dg i++nm.data.toList++[58]).length≤900000:=by simp only [List.length_append,List.length_cons,List.length_nil];omega
   have hL4:(K++dg i++nm.data.toList++[58]++dg j).length+1≤1000000:=by simp only [List.length_append,List.length_cons,List.length_nil];omega
   go_wp2_with (go_at_fn 141);obtain ⟨WB,hWB⟩:∃WB,wr.alloc (Obj.cells #[Value.int IntKind.i64 i,Value.string nm,Value.int IntKind.i64 j] 68)=WB:=⟨_,rfl⟩;have kB:Kept (fun _=>False) wr WB:=hWB▸zcz wr _;have hBx:WB.heap[wr.heap.size]? =some (.cells #[.int .i64 i,.string nm,.int .i64 j] 68 (0,0)):=by rw [←hWB];exact zkz wr _
   have hownB:=qsh hown kB;rw [hWB];clear hWB hix hc0 hc1 hc2;have kkB:Kept (fun b=>w.heap.size≤b) w WB:=hkr.trans kB fun _ h=>h.elim
   refine (appI i (by omega) WB w.heap.size u3 _ kkB.size hownB (by omega)).mono ?_;rintro e w1 ⟨v1,rfl,hown1,hk1⟩;have hB1:=ydj hownB hBx hk1;have kk1:Kept (fun b=>w.heap.size≤b) w w1:=kkB.trans hk1 fun x h=>.inl (qlf hownB h).1
   have c1:w1.cell? ⟨wr.heap.size,1,none⟩=some (.string nm):=by rw [cell_of_block hB1];rfl
   clear hBx hownB hk1;go_wp2_with (first
    |(at_builtin;go_loud (refine ysn rfl _ _ rfl w.heap.size v1 _ nm rfl rfl hown1 kk1.size hL1 ?_);intro v2 w2 hown2 hk2;have hB2:=ydj hown1 hB1 hk2;have kk2:Kept (fun b=>w.heap.size≤b) w w2:=kk1.trans hk2 fun x h=>.inl (qlf hown1 h).1;clear hB1 hown1 hk2 c1)
    |(at_builtin;have kb:=zcz w2 (Obj.cells #[Value.int IntKind.u8 58] 5);have kkb:Kept (fun b=>w.heap.size≤b) w (w2.alloc (Obj.cells #[Value.int IntKind.u8 58] 5)):=kk2.trans kb (fun _ h=>h.elim);have hown3:=qsh hown2 kb;have hB3:=(kb.block _ (Array.getElem?_eq_some_iff.1 hB2).1 id).trans hB2;have hsz3:=kkb.size;have hbx:=yvu w2 58 58 rfl;go_loud (refine yvt rfl _ _ rfl w.heap.size v2 (K++dg i++nm.data.toList) 58 ⟨w2.heap.size,0,none⟩ 1 rfl rfl hbx hown3 hsz3 hL2 ?_);intro v4 w4 hown4 hk4;have hB4:=ydj hown3 hB3 hk4;have kk4:Kept (fun b=>w.heap.size≤b) w w4:=kkb.trans hk4 (fun x h=>.inl (qlf hown3 h).1);have c2:w4.cell? ⟨wr.heap.size,2,none⟩=some (.int .i64 j):=(by rw [cell_of_block hB4];rfl);clear hB2 hB3 hown2 hown3 hk4 hbx kb))
   refine (appI j (by omega) w4 w.heap.size v4 _ kk4.size hown4 hL3).mono ?_;rintro e w5 ⟨v5,rfl,hown5,hk5⟩;have kk5:Kept (fun b=>w.heap.size≤b) w w5:=kk4.trans hk5 fun x h=>.inl (qlf hown4 h).1
   go_wp2_with (at_builtin;have kb:=zcz w5 (Obj.cells #[Value.int IntKind.u8 32] 5);have kkb:Kept (fun b=>w.heap.size≤b) w (w5.alloc (Obj.cells #[Value.int IntKind.u8 32] 5)):=kk5.trans kb (fun _ h=>h.elim);have hown6:=qsh hown5 kb;have hsz3:=kkb.size;have hbx:=yvu w5 32 32 rfl;go_loud (refine yvt rfl _ _ rfl w.heap.size v5 (K++dg i++nm.data.toList++[58]++dg j) 32 ⟨w5.heap.size,0,none⟩ 1 rfl rfl hbx hown6 hsz3 hL4 ?_);intro v7 w7 hown7 hk7;have kk7:Kept (fun b=>w.heap.size≤b) w w7:=kkb.trans hk7 (fun x h=>.inl (qlf hown6 h).1));go_wp2;refine ⟨⟨k+1,by go_num,by omega,?_,kk7⟩,by simp [intOf];omega⟩;rw [hdrop];have e1:keyL (n.row.take k++[((i:Int),nm,(j:Int))])=K++dg i++nm.data.toList++[58]++dg j++[32]:=by unfold keyL at hK ⊢;rw [List.flatMap_append,hK,List.flatMap_cons,List.flatMap_nil,List.append_nil];unfold keyN;simp only [Int.toNat_natCast,List.append_assoc,List.cons_append,List.nil_append]
   rw [e1];exact hown7
  ·have hke:k=n.row.length:=by omega
   subst hke;rw [List.take_length] at hown;have hcv:=xcw hown;go_wp2;go_ret;exact ⟨rfl,hkr.yzh fun b h1 h2=>by omega⟩
attribute [local go_sem] Oper.semAt_some
theorem ylg [Dfr] [zfm] [zda] [zew] [zlf]:∀(c:Nat) (n:Tm),Good n→cntW n.row≤8→cntW n.row<c→xdf n
 |0,_,_,_,h=>absurd h (Nat.not_lt_zero _)
 |c+1,n,hn,h8,hc=>by
  cases ho:n.zhq with
  |true=>cases n<;>first|exact xcq _|cases ho
  |false=>exact xcr xkg hn ho h8 fun n' h1 h2=>ylg c n' h1 (by omega) (by omega)
set_option maxHeartbeats 2000000 in
theorem qfi [Dfr] [zfm] {F:Nat→Prop} {w:World} (hF:∀b,F b→b<w.heap.size):Calls Tryz.prog 49 #[] w fun e w'=>∃kb eb mb,e= .returned (.func (.func 83) #[] #[.pointer (some ⟨kb,0,none⟩),.pointer (some ⟨eb,0,none⟩)])∧Kept (fun _=>False) w w'∧w.heap.size≤mb∧Memo (fun b=>F b∨b=mb) w' kb eb mb:=by
 go_enter Tryz.func49,Tryz.ntmps49;have hmk:=run_makeMap (P:=Tryz.prog) 111 w;have hbx:Boxed (((w.alloc (.map #[] 0)).alloc (.cells #[.map (some w.heap.size)] 111)).alloc (.cells #[.nilFunc] 82)) (w.heap.size+1+1) 82 .nilFunc:=by
  have:=Boxed.new ((w.alloc (.map #[] 0)).alloc (.cells #[.map (some w.heap.size)] 111)) 82 .nilFunc
  rwa [World.size_alloc,World.size_alloc] at this
 have hsf:=fun (a:Addr) (c:Array Value) (w:World)=>run_store Tryz.prog w a (.func (.func 83) #[] c) .plain rfl
 have hb1:=hbx.cell;have hb2:=hbx.frozen;go_wp2_with fail;clear hb1 hb2 hsf hbx hmk;go_ret;obtain ⟨w1,h1⟩:∃w1,w.alloc (Obj.map #[] 0)=w1:=⟨_,rfl⟩;obtain ⟨w2,h2⟩:∃w2,w1.alloc (Obj.cells #[Value.map (some w.heap.size)] 111)=w2:=⟨_,rfl⟩;have s1:w1.heap.size=w.heap.size+1:=by rw [←h1];simp
 have s2:w2.heap.size=w.heap.size+1+1:=by rw [←h2,World.size_alloc,s1]
 have k1:Kept (fun _=>False) w w1:=h1▸zcz w _;have k2:Kept (fun _=>False) w1 w2:=h2▸zcz w1 _;rw [h1,h2];obtain ⟨w3,h3⟩:∃w3,w2.alloc (Obj.cells #[zhh 83 (w.heap.size+1) (w.heap.size+1+1)] 82)=w3:=⟨_,rfl⟩;have k3:Kept (fun _=>False) w2 w3:=h3▸zcz w2 _;have h3':w2.alloc (Obj.cells #[Value.func (Fn.func 83) #[] #[Value.pointer (some {block:=w.heap.size+1,off:=0}),Value.pointer (some {block:=w.heap.size+1+1,off:=0})]] 82)=w3:=h3;rw [h3'];have m1:w1.heap[w.heap.size]? =some (.map #[] 0):=by rw [←h1];exact World.alloc_heap_new w _
 have m2:w2.heap[w.heap.size+1]? =some (.cells #[.map (some w.heap.size)] 111 (0,0)):=by rw [←h2,←s1];exact World.alloc_heap_new w1 _
 have m3:w3.heap[w.heap.size+1+1]? =some (.cells #[zhh 83 (w.heap.size+1) (w.heap.size+1+1)] 82 (0,0)):=by rw [←h3,←s2];exact World.alloc_heap_new w2 _
 refine ⟨w.heap.size+1,w.heap.size+1+1,w.heap.size,rfl,(k1.trans k2 fun _ h=>h.elim).trans k3 fun _ h=>h.elim,Nat.le_refl _,⟨(k3.block _ (by omega) id).trans m2,m3,⟨#[],0,(k3.block _ (by omega) id).trans ((k2.block _ (by omega) id).trans m1),fun x hx=>by simp at hx⟩,fun h=> ?_,fun h=> ?_,.inr rfl⟩⟩
 ·rcases h with h|h
  ·have:=hF _ h;omega
  ·omega
 ·rcases h with h|h
  ·have:=hF _ h;omega
  ·omega
open Go Go.Sv Go.Rd
noncomputable def chkR (l:List Nd):Int:=if on (sOf l)=3 then (if l≠[]∧zbp l=l then (if zug l then 0 else 70) else 1) else 1
theorem qbj [Dfr] (l:List Nd) (hl:l.length≤4611686018427387904):qdg l=some (chkR l):=by
 rw [yan,qqo l false hl];simp only [Option.bind_some,zmp l hl,qch];unfold chkR;simp only [Bool.false_eq_true,if_false];by_cases h1:on (sOf l)=3
 ·rw [decide_eq_true h1,if_pos h1];simp only [Bool.not_true,cond_false];by_cases h2:l≠[]∧zbp l=l
  ·rw [decide_eq_true h2,if_pos h2];simp only [Bool.not_true,cond_false];by_cases h3:zug l
   ·rw [decide_eq_true h3,if_pos h3];rfl
   ·rw [decide_eq_false h3,if_neg h3];rfl
  ·rw [decide_eq_false h2,if_neg h2];rfl
 ·rw [decide_eq_false h1,if_neg h1];rfl
theorem yok [Dfr] {l:List Nd} (h:chkR l=0):∃n:Tm,l=n.row∧Good n:=by
 unfold chkR at h;split at h
 ·rename_i h1;split at h
  ·rename_i h2;split at h
   ·rename_i h3;obtain ⟨m,e,hf,hz,ho,hst,hso⟩:=yah h2;subst e;refine ⟨m,rfl,hf,hst,?_,zwo.1 h3⟩;rw [Tm.ysz,←hso];exact decide_eq_true h1
   ·cases h
  ·cases h
 ·cases h
theorem qjr [Dfr] {n:Tm} (h:Good n):chkR n.row=0:=by
 have h1:on (sOf n.row)=3:=by rw [ytl h.1 (by have:=h.2.2.2.1;omega)];exact of_decide_eq_true ((Tm.ysz n).symm.trans h.2.2.1)
 unfold chkR;have h2:n.row≠[]∧zbp n.row=n.row:=h.set;rw [if_pos h1,if_pos h2,if_pos (zwo.2 h.2.2.2)]
theorem zse [Dfr] {n:Tm} (h:Good n):trL n.row=n.tr:=qkp h.1 (by have:=h.2.2.2.1;omega)
noncomputable def allR (l:List Nd):List Tc×Int:=if chkR l=0 then (trL l,0) else ([],chkR l)
noncomputable def zzx (l:List Nd):Option (List Tc×Int):=if l.length≤1000000∧cntW l≤8 then some (allR l) else none
class qfq [Dfr]:Prop where
 all:∀l,zrr l=zzx l
attribute [local go_sem] Oper.semAt_some
set_option maxHeartbeats 3200000 in
theorem yxu [Dfr] [zfm] [zda] [zew] [zlf] {F:Nat→Prop} {w:World} {v:Value} {l:List Nd} (hF:∀b,F b→b<w.heap.size) (hg:zfe E F w) (hc:Cl F w (.slice 68 NdY) l [v]) (hl:l.length≤1000000) (h8:cntW l≤8):
 Calls Tryz.prog 20 #[v] w fun e w'=>∃u,e= .returned (.tuple #[u,.int .i64 (allR l).2])∧Kept (fun _=>False) w w'∧Cl F w' (.slice 33 TcY) (allR l).1 [u]:=by
 have hchk:=qhh (qbj l (by omega)) hF hg hc;obtain ⟨z,hz⟩:∃z,chkR l=z:=⟨_,rfl⟩;rw [hz] at hchk;unfold allR;rw [hz];by_cases h0:z=0
 ·subst h0;obtain ⟨n,rfl,hn⟩:=yok hz;rw [if_pos rfl,zse hn];go_enter Tryz.func20,Tryz.ntmps20;go_wp2_with (go_at_fn 47);refine hchk.mono ?_;rintro e w1 ⟨rfl,hk1⟩;have s1:Step F F w w1:=zbq hk1 fun _ h=>h.elim
  have hF1:∀b,F b→b<w1.heap.size:=fun b hb=>Nat.lt_of_lt_of_le (hF b hb) hk1.size
  go_wp2_with (go_at_fn 49);refine (qfi hF1).mono ?_;rintro e w2 ⟨kb,eb,mb,rfl,hk2,hmb,hm2⟩;have s2:Step F (fun b=>F b∨b=mb) w w2:=⟨fun b hb hlt=>(hk2.block b (Nat.lt_of_lt_of_le hlt hk1.size) id).trans (hk1.block b hlt id),fun b hb=>hb.imp id fun e=>by have:=hk1.size;omega⟩;have hF2:∀b,(F b∨b=mb)→b<w2.heap.size:=fun b hb=>by
   rcases hb with hb|rfl
   ·exact Nat.lt_of_lt_of_le (hF1 b hb) hk2.size
   ·exact hm2.lt.2.2
  have hexp:=ylg (cntW n.row+1) n hn h8 (Nat.lt_succ_self _) w2 (fun b=>F b∨b=mb) v kb eb mb hF2 (hg.step s2) (hc.step s2) hm2;go_wp2_with (go_at_fn 83);refine hexp.mono ?_;rintro e w3 ⟨s,c,rfl,hk3,hm3,hc3⟩;have hk03:Kept (fun _=>False) w w3:=(hk1.trans hk2 fun _ h=>h.elim).trans hk3 fun x h=>.inr (by have:=hk1.size;omega)
  have s3:Step (fun b=>F b∨b=mb) (fun b=>F b∨b=mb) w2 w3:=zbq hk3 fun b h=>.inr h
  have hF3:∀b,(F b∨b=mb)→b<w3.heap.size:=fun b hb=>Nat.lt_of_lt_of_le (hF2 b hb) hk3.size
  have hsh:zwz n.tr:=fewT.short fun x hx=>Nat.le_trans (zcl hn.2.2.2 x hx) (by decide)
  have hlen:=qzk hn h8;have hset:zfn n.tr=some n.tr:=by rw [zgb _ (by omega) hsh,yid ordT (Tm.ymy n)]
  go_wp2_with (go_at_fn 48);refine (yev hset hF3 ((hg.step s2).step s3) hc3).mono ?_;rintro e w4 ⟨s',c',rfl,hk4,hc4⟩;go_wp2;go_ret2;exact ⟨_,rfl,hk03.trans hk4 fun _ h=>h.elim,Cl.lift (fun b hb=>.inl hb) hc4⟩
 ·rw [if_neg h0];go_enter Tryz.func20,Tryz.ntmps20;go_wp2_with (go_at_fn 47);refine hchk.mono ?_;rintro e w1 ⟨rfl,hk1⟩;go_wp2;go_ret2;refine ⟨_,rfl,hk1,?_⟩;rw [Cl];exact ⟨none,0,rfl,Nat.le_refl _,.inl rfl⟩
theorem yii [Dfr] [zfm] [zda] [zew] [zlf] (l:List Nd) (r:List Tc×Int) (h:zzx l=some r):zdw Tryz.prog E 20 l r:=by
 unfold zzx at h;split at h
 ·rename_i hc;cases h;intro w F0 G A vs hA;obtain ⟨v0,rfl,h0⟩:∃v0,vs=[v0]∧Cl (A.F F0) w (.slice 68 NdY) l [v0]:=by
   have hr:=hA.rel;cases hr with
   |cons a hr=>cases hr;exact ⟨_,rfl,a⟩
  have hF:∀b,A.F F0 b→b<w.heap.size:=fun b hb=>by
   rcases hb with hb|⟨d,hb⟩|⟨n,l,hb⟩
   ·exact (hA.f0 b hb).1
   ·rw [hA.bx] at hb;cases hb
   ·exact (hA.tgm n b l hb).2
  refine (yxu hF hA.glob h0 hc.1 hc.2).mono ?_;rintro e w' ⟨u,rfl,hk,hu⟩;refine ⟨_,rfl,zof hk,fun d=>⟨⟨fun _=>none,fun _=>none⟩,?_,fun _=>rfl,fun n b l h=>(by cases h),fun n n' b l l' h h'=>(by cases h)⟩⟩;have hu':Cl (Fr.F ⟨fun _=>none,fun _=>none⟩ F0) w' (.slice 33 TcY) (allR l).1 [u]:=Cl.lift (fun b hb=>by
   rcases hb with hb|⟨d',hb⟩|⟨n,l',hb⟩
   ·exact .inl hb
   ·cases hb
   ·cases hb) hu
  exact ⟨[u,.int .i64 (allR l).2],rfl,.cons hu' (.cons rfl .nil)⟩
 ·cases h
def qio (t:Tc) (nm:ByteArray):Tc×Bool:=
 if nm=(⟨#[]⟩:ByteArray) then (t,true) else match t.1 with
 |[]=>(t,false)
 |a::r=>if a=nm then ((r,t.2),true) else (t,false)
theorem yty [Dfr] {t:Tc} {nm:ByteArray} {L:List Tc}:t∈zor nm L↔(qio t nm).2=true∧(qio t nm).1∈L:=by
 obtain ⟨A,s⟩:=t;unfold zor qio;rw [List.mem_map];by_cases h:nm=(⟨#[]⟩:ByteArray)
 ·simp only [h,if_true,List.nil_append,true_and];constructor
  ·rintro ⟨x,hx,e⟩;rw [←e];exact hx
  ·intro hx;exact ⟨_,hx,rfl⟩
 ·simp only [if_neg h];cases A with
  |nil=>
   constructor
   ·rintro ⟨x,hx,e⟩;have:=congrArg Prod.fst e;simp at this
   ·rintro ⟨h,_⟩;cases h
  |cons a r=>
   by_cases ha:a=nm
   ·subst ha;simp only [if_true,true_and];constructor
    ·rintro ⟨x,hx,e⟩;obtain ⟨X,y⟩:=x;simp only [List.cons_append,List.nil_append,Prod.mk.injEq,List.cons.injEq,true_and] at e;obtain ⟨rfl,rfl⟩:=e;exact hx
    ·intro hx;exact ⟨_,hx,rfl⟩
   ·simp only [if_neg ha,Bool.false_eq_true,false_and,iff_false];rintro ⟨x,hx,e⟩;have:=congrArg Prod.fst e;simp only [List.cons_append,List.nil_append,List.cons.injEq] at this;exact ha this.1.symm
theorem ytz [Dfr] {t:Tc} {nm:ByteArray}:(qio t nm).1.1.length≤t.1.length:=by
 unfold qio;split
 ·exact Nat.le_refl _
 ·split
  ·exact Nat.le_refl _
  ·rename_i h;split
   ·rw [h];simp
   ·rw [h];exact Nat.le_refl _
theorem yjh [Dfr] (t:Tc) (nm:ByteArray) (ht:t.1.length≤1000000000):qin t nm=some (qio t nm):=by
 obtain ⟨A,s⟩:=t;rw [yey];unfold qio;by_cases h:nm=(⟨#[]⟩:ByteArray)
 ·subst h;rw [if_pos rfl,beq_self_eq_true];rfl
 ·have h1:(nm.toList==(⟨#[]⟩:ByteArray).toList)=false:=by rw [Bool.eq_false_iff];intro e;exact h (toList_inj (eq_of_beq e))
  rw [h1,cond_false,if_neg h];cases A with
  |nil=>rfl
  |cons a r=>
   have h2:(((a::r).length:Int)==0)=false:=by simp;omega
   have h3:zaa 0 (a::r).length=true:=by simp [zaa]
   have h4:zbe 1 ((a::r).length:Int) (a::r).length=true:=by simp [zbe];omega
   simp only [h2,cond_false,h3,cond_true,h4];by_cases ha:a=nm
   ·subst ha;have h5:(ix (a::r) 0).toList==a.toList:=by simp [ix]
    rw [h5];simp only [Bool.not_true,cond_false,if_true]
    congr 2
    simp [cut]
   ·have h5:((ix (a::r) 0).toList==nm.toList)=false:=by rw [Bool.eq_false_iff];intro e;exact ha (toList_inj (by simpa [ix] using eq_of_beq e))
    rw [h5,if_neg ha];rfl
def hitR (l:List Nd) (t:Tc) (mv:Mv):Prop:=(qio t (zge l mv).2.1).2=true∧(qio t (zge l mv).2.1).1∈trL (zge l mv).1
noncomputable def hitB (l:List Nd) (t:Tc) (mv:Mv):Bool:= @decide (hitR l t mv) (Classical.propDecidable _)
theorem ynx [Dfr] {l:List Nd} {t:Tc} {mv:Mv}:hitB l t mv=true↔hitR l t mv:= @decide_eq_true_iff _ (Classical.propDecidable _)
theorem ynw [Dfr] {n:Tm} (h:Good n) {mv:Mv} (hm:mv∈enL n.row) (t:Tc):hitR n.row t mv↔t∈qaz n.row mv:=by obtain ⟨n',e1,_,hg,_,e2,_,_⟩:=qjq h hm;unfold hitR;rw [e2,yty,e1,zse hg]
theorem xkj [Dfr] {n:Tm} (h:Good n) (ho:n.zhq=false) {t:Tc}:t∈n.tr↔∃mv∈enL n.row,hitR n.row t mv:=by
 rw [←qzt h.set h.2.2.1 h.2.2.2 ho t,List.mem_flatMap];constructor
 ·rintro ⟨mv,hm,hx⟩;exact ⟨mv,hm,(ynw h hm t).2 hx⟩
 ·rintro ⟨mv,hm,hx⟩;exact ⟨mv,hm,(ynw h hm t).1 hx⟩
noncomputable def qyd (l:List Nd) (t:Tc):Option Nat:=(enL l).findIdx? (hitB l t)
noncomputable def picks:Nat→List Nd→Tc→List Int
 |0,_,_=>[]
 |c+1,l,t=>match qyd l t with
  |none=>[]
  |some k=>(k:Int)::picks c (zge l ((enL l).getD k default)).1 (qio t (zge l ((enL l).getD k default)).2.1).1
theorem ykk [Dfr] (s:Int):enL (Tm.over s).row=[]:=by have h:=yli (Tm.over s).row;have e:cntW (Tm.over s).row=0:=rfl;rw [e] at h;exact List.eq_nil_of_length_eq_zero (by omega)
theorem qxq [Dfr] (c:Nat) (s:Int) (t:Tc):picks c (Tm.over s).row t=[]:=by
 cases c with
 |zero=>rfl
 |succ c=>
  have h:enL (Tm.over s).row=[]:=ykk s;have h2:qyd (Tm.over s).row t=none:=by unfold qyd;rw [h];rfl
  unfold picks;rw [h2]
theorem ywm [Dfr] {l:List Nd} {t:Tc} {k:Nat} (hk:k<(enL l).length) (h1:hitR l t (enL l)[k]) (h0:∀j,(hj:j<k)→¬hitR l t ((enL l)[j]'(by omega))):qyd l t=some k:=by unfold qyd;rw [List.findIdx?_eq_some_iff_getElem];refine ⟨hk,ynx.2 h1,fun j hj=> ?_⟩;intro h;exact h0 j hj (ynx.1 h)
theorem ybx [Dfr] {l:List Nd} {t:Tc} {k c:Nat} (hk:k<(enL l).length) (h1:hitR l t (enL l)[k]) (h0:∀j,(hj:j<k)→¬hitR l t ((enL l)[j]'(by omega))):
 picks (c+1) l t=(k:Int)::picks c (zge l (enL l)[k]).1 (qio t (zge l (enL l)[k]).2.1).1:=by
 have e:(enL l).getD k default=(enL l)[k]:=by rw [List.getD_eq_getElem?_getD,List.getElem?_eq_getElem hk];rfl
 show (match qyd l t with|none=>[]|some k=>_)=_;rw [ywm hk h1 h0];simp only [e]
noncomputable def qha (l:List Nd) (t:Tc):List Int×Bool:=
 match @decide (chkR l=0∧t∈trL l) (Classical.propDecidable _) with
 |true=>(picks (cntW l+1) l t,true)
 |false=>([],false)
theorem yhn [Dfr] {l:List Nd} {t:Tc} (h:chkR l=0∧t∈trL l):qha l t=(picks (cntW l+1) l t,true):=by unfold qha;rw [@decide_eq_true _ (Classical.propDecidable _) h]
theorem yoe [Dfr] {l:List Nd} {t:Tc} (h:¬(chkR l=0∧t∈trL l)):qha l t=([],false):=by unfold qha;rw [@decide_eq_false _ (Classical.propDecidable _) h]
noncomputable def qcs (l:List Nd) (t:Tc):Option (List Int×Bool):=if l.length≤1000000∧cntW l≤8∧t.1.length≤1000000 then some (qha l t) else none
class qhj [Dfr]:Prop where
 find:∀l t,zpk l t=qcs l t
theorem xap [Dfr] {n:Nd} (h:right n=true):n.2.1.size≤8:=by
 unfold right at h;split at h
 ·simp only [Bool.and_eq_true,decide_eq_true_eq,qoa] at h;exact h.1.2.1
 ·split at h
  ·simp only [Bool.and_eq_true,decide_eq_true_eq] at h;rw [h.1];decide
  ·simp only [Bool.and_eq_true,decide_eq_true_eq] at h;rw [h.2.1];decide
theorem xhx [Dfr] {m:Tm} (h:m.fine):∀n∈m.row,n.2.1.size≤9223372036854775807:=fun n hn=>Nat.le_trans (xap (zlh h n hn)) (by decide)
theorem ypj [Dfr] (l:List Nd):∀n∈zbp l,n.2.1.size≤9223372036854775807:=by
 rcases zyn l with h|⟨m,_,hf,hz,_,h,_⟩
 ·rw [h];intro n hn;cases hn
 ·rw [h];exact xhx (Tm.zvf hf)
theorem qsn [Dfr] (l:List Nd) (m:Mv):(zge l m).1.length≤200:=by
 unfold zge;split
 ·exact qgb _
 ·simp
theorem xbu [Dfr] (l:List Nd) (m:Mv):∀n∈(zge l m).1,n.2.1.size≤9223372036854775807:=by
 unfold zge;split
 ·exact ypj _
 ·intro n hn;cases hn
noncomputable def zcb:List Nd→List ByteArray→Int→List Int→List Nd×Tc
 |l,A,n,[]=>(l,A,n)
 |l,A,n,p::r=>if (zhj (enL l) p).2=0 then zcb (zge l (zhj (enL l) p).1).1 (if (zhj (enL l) p).1.2=1 then A++[(zge l (zhj (enL l) p).1).2.1] else A) (n+1) r else (l,A,n)
theorem zyq [Dfr] [zda] [zew] [zlf] (y4:List Nd×Tc) (ps:List Int) (hp:ps.length≤1000000):∀(r:List Int) (i:Nat) (l:List Nd) (A:List ByteArray) (k:Nat),ps.drop i=r→l.length≤400000→A.length≤i→k≤i→
 ∃y4',zqc y4 (l,A,(k:Int)) ps (ps.length:Int) (i:Int)=some (0,(y4',zcb l A (k:Int) r))
 |[],i,l,A,k,h,hl,hA,hk=>by obtain ⟨h1,h2⟩:=drop_nil h;rw [qbk];simp only [h2,cond_false];exact ⟨_,rfl⟩
 |p::r,i,l,A,k,h,hl,hA,hk=>by
  obtain ⟨h1,h2,h3,h4,h5,h6⟩:=zae h;rw [qbk];simp only [h2,h3,h4,cond_true,yko l p (by omega),Option.bind_some];unfold zcb;by_cases h0:(zhj (enL l) p).2=0
  ·have hb:((zhj (enL l) p).2 != 0)=false:=by rw [h0];rfl
   rw [if_pos h0];simp only [hb,cond_false,qfw l _ (show l.length≤400000 from hl),Option.bind_some];have hnl:=qsn l (zhj (enL l) p).1;have hw:w64 ((k:Int)+1)=((k+1:Nat):Int):=zbj (by omega);by_cases h1:(zhj (enL l) p).1.2=1
   ·have hb1:((zhj (enL l) p).1.2==1)=true:=by rw [h1];rfl
    rw [if_pos h1];simp only [hb1,cond_true,hw,room (show (A.length+1)*16≤140737488355328 by omega),zbj (show i<9223372036854775807 by omega)];obtain ⟨y',e⟩:=zyq y4 ps hp r (i+1) (zge l (zhj (enL l) p).1).1 (A++[(zge l (zhj (enL l) p).1).2.1]) (k+1) h5 (by omega) (by simp;omega) (by omega);exact ⟨y',by rw [e];rfl⟩
   ·have hb1:((zhj (enL l) p).1.2==1)=false:=by rw [Bool.eq_false_iff];intro e;exact h1 (eq_of_beq e)
    rw [if_neg h1];simp only [hb1,cond_false,hw,zbj (show i<9223372036854775807 by omega)];obtain ⟨y',e⟩:=zyq y4 ps hp r (i+1) (zge l (zhj (enL l) p).1).1 A (k+1) h5 (by omega) (by omega) (by omega);exact ⟨y',by rw [e];rfl⟩
  ·have hb:((zhj (enL l) p).2 != 0)=true:=by rw [bne_iff_ne];exact h0
   rw [if_neg h0];simp only [hb,cond_true];exact ⟨_,rfl⟩
theorem zko [Dfr] [zda] [zew] [zlf] (l:List Nd) (ps:List Int) (hl:l.length≤400000) (hp:ps.length≤1000000):zkp l ps=some (zcb l [] 0 ps):=by obtain ⟨y',e⟩:=zyq ([],[],0) ps hp ps 0 l [] 0 rfl hl (Nat.le_refl _) (Nat.le_refl _);rw [Int.natCast_zero] at e;rw [yez];simp only [znk l (by omega),Option.bind_some,e]
def zwk (r:List Nd×Tc):Tc×Bool:=match r.1 with
 |[n]=>if n.1=11 then ((r.2.1,n.2.2),true) else (([],0),false)
 |_=>(([],0),false)
theorem zuk [Dfr] (r:List Nd×Tc) (hA:r.2.1.length≤1000000):zsh r=some (zwk r):=by
 obtain ⟨l,A,z⟩:=r;rw [yao,zvn,Option.bind_some];unfold zwk
 match l with
 |[]=>rfl
 |[n]=>
  simp only;by_cases h:n.1=11
  ·rw [if_pos h,if_pos h];simp only [Bool.not_true,cond_false,zop A (by simp only at hA;omega),Option.bind_some]
  ·rw [if_neg h,if_neg h];rfl
 |_::_::_=>rfl
theorem yaw [Dfr] (r:List Nd×Tc):qgj r=some (zwk r):=by
 obtain ⟨l,A,z⟩:=r;rw [qvn];unfold zwk
 match l with
 |[]=>rfl
 |[n]=>
  simp only;by_cases h:n.1=11
  ·rw [if_pos h];simp [zaa,ix,h]
  ·rw [if_neg h];have hb:(n.1 != 11)=true:=by rw [bne_iff_ne];exact h
   simp [zaa,ix,hb]
 |a::b::r=>
  have hb:(((a::b::r).length:Int) != 1)=true:=by rw [bne_iff_ne];simp;omega
  simp only [hb,cond_true]
theorem zzl [Dfr] (l:List Nd) (hl:l.length≤4611686018427387904):zxo l=some (decide (l.length≤100∧dep l≤24)):=by
 rw [yhd];by_cases h:l.length≤100
 ·have h1:decide ((l.length:Int)≤100)=true:=decide_eq_true (by omega);simp only [h1,cond_true,qit l hl,Option.bind_some]
  congr 1
  by_cases h2:dep l≤24
  ·rw [decide_eq_true (show (dep l:Int)≤24 by omega),decide_eq_true ⟨h,h2⟩]
  ·rw [decide_eq_false (show ¬(dep l:Int)≤24 by omega),decide_eq_false fun h3=>h2 h3.2]
 ·have h1:decide ((l.length:Int)≤100)=false:=decide_eq_false (by omega);rw [h1,cond_false,decide_eq_false fun h3=>h h3.1]
theorem qwl [Dfr] (l:List Nd) (hl:l.length≤4611686018427387904):qcj l=some (decide ((l.length≤100∧dep l≤24)∧cntW l≤8)):=by
 rw [qtf,zzl l hl,Option.bind_some];by_cases h:l.length≤100∧dep l≤24
 ·rw [decide_eq_true h,cond_true,qgf l [1,6,4,10] (by omega) (by decide),Option.bind_some];have e:l.countP (fun x=>decide (x.1∈[1,6,4,10]))=cntW l:=by
   unfold cntW;refine List.countP_congr fun x _=> ?_
   unfold zcw;simp
  rw [e]
  congr 1
  by_cases h2:cntW l≤8
  ·rw [decide_eq_true (show (cntW l:Int)≤8 by omega),decide_eq_true ⟨h,h2⟩]
  ·rw [decide_eq_false (show ¬(cntW l:Int)≤8 by omega),decide_eq_false fun h3=>h2 h3.2]
 ·rw [decide_eq_false h,cond_false,decide_eq_false fun h3=>h h3.1]
def g0:Tm:=.par (.act ⟨#[97]⟩) .yield
def g1:Tm:=.par (.over 1) .yield
theorem xjd [Dfr]:g0.tr=[([⟨#[97]⟩],1),([⟨#[97]⟩],3)]:=by decide +kernel
theorem xld [Dfr]:g1.tr=[([],1),([],3)]:=by decide +kernel
theorem xjs [Dfr]:setL g0.row:=qhx (by simp only [g0,Tm.fine,Tm.good];decide) (by decide) (by decide) (by unfold g0;rw [Tm.zpx,Tm.qba,Tm.zmn];rfl)
theorem xdw [Dfr]:setL g1.row:=qhx (by simp only [g1,Tm.fine,Tm.good];decide) (by decide) (by decide) (by unfold g1;rw [Tm.zpx,Tm.zhx,Tm.zmn];rfl)
theorem yqw [Dfr]:enL g0.row=[(1,1),(2,4),(2,5)]:=by rw [qjw (show tree g0.row=some g0.t from zpi (Tm.t_ok g0)) xjs];unfold mvsT;rw [show g0.t.wts 0=[1,2] by decide];rfl
theorem yhq [Dfr]:enL g1.row=[(2,4),(2,5)]:=by rw [qjw (show tree g1.row=some g1.t from zpi (Tm.t_ok g1)) xdw];unfold mvsT;rw [show g1.t.wts 0=[2] by decide];rfl
theorem ycb [Dfr]:zge g0.row (1,1)=(g1.row,⟨#[97]⟩,0):=by
 unfold zge;rw [if_pos (by rw [yqw];decide)];have e:putR g0.row ((1,1):Mv).1 (zmx (g0.row.drop ((1,1):Mv).1.toNat) ((1,1):Mv).2)=g1.row:=by decide
 rw [e,xdw.2];rfl
theorem xhq [Dfr]:zge g1.row (2,4)=((Tm.over 1).row,⟨#[]⟩,0):=by
 unfold zge;rw [if_pos (by rw [yhq];decide)];have e:putR g1.row ((2,4):Mv).1 (zmx (g1.row.drop ((2,4):Mv).1.toNat) ((2,4):Mv).2)=(Tm.par (.over 1) (.over 1)).row:=by decide
 rw [e,zmu (by simp only [Tm.fine,Tm.good];decide) (by decide) (by decide),Tm.zpx,Tm.zhx];rfl
theorem ykm [Dfr]:zge g1.row (2,5)=((Tm.over 3).row,⟨#[]⟩,0):=by
 unfold zge;rw [if_pos (by rw [yhq];decide)];have e:putR g1.row ((2,5):Mv).1 (zmx (g1.row.drop ((2,5):Mv).1.toNat) ((2,5):Mv).2)=(Tm.par (.over 1) (.over 3)).row:=by decide
 rw [e,zmu (by simp only [Tm.fine,Tm.good];decide) (by decide) (by decide),Tm.zpx,Tm.zhx,Tm.zhx];rfl
theorem ycr [Dfr]:Good g0:=⟨by simp only [g0,Tm.fine,Tm.good];decide,by unfold g0;rw [Tm.zpx,Tm.qba,Tm.zmn];rfl,by decide,by unfold Tm.small;decide⟩
theorem xhj [Dfr]:zcb g0.row [] 0 [0,1,7]=((Tm.over 3).row,[⟨#[97]⟩],2):=by
 have p0:zhj (enL g0.row) 0=((1,1),0):=by rw [yqw];rfl
 have p1:zhj (enL g1.row) 1=((2,5),0):=by rw [yhq];rfl
 have p2:zhj (enL (Tm.over 3).row) 7=((0,0),120):=by rw [ykk];rfl
 simp only [zcb,p0,p1,p2,ycb,ykm,if_true,if_pos,List.nil_append];rfl
theorem xbp [Dfr]:zcb g0.row [] 0 [0]=(g1.row,[⟨#[97]⟩],1):=by
 have p0:zhj (enL g0.row) 0=((1,1),0):=by rw [yqw];rfl
 simp only [zcb,p0,ycb,if_true,if_pos,List.nil_append];rfl
theorem xdb [Dfr]:chkR [(2,ByteArray.empty,0)]=1:=by
 have e:zbp Tm.skip.row=(Tm.over 1).row:=by rw [zmu (by simp only [Tm.fine,Tm.good]) (by decide) (by decide),Tm.zsr]
 unfold chkR;split
 ·rw [if_neg];rintro ⟨_,h⟩;have h2:zbp Tm.skip.row=Tm.skip.row:=h;rw [e] at h2;revert h2;decide
 ·rfl
theorem xbq [Dfr]:qha g0.row ([⟨#[97]⟩],3)=([0,1],true):=by
 have hm:([⟨#[97]⟩],3)∈g0.tr:=by rw [xjd];decide
 rw [yhn ⟨qjr ycr,by rw [zse ycr];exact hm⟩];have hc:cntW g0.row=2:=by decide
 rw [hc];have g1f:trL g1.row=[([],1),([],3)]:=by rw [qkp (by simp only [g1,Tm.fine,Tm.good];decide) (by decide),xld]
 have ov1:trL (Tm.over 1).row=[([],1)]:=qkp (by simp only [Tm.fine,Tm.good];decide) (by decide);have ov3:trL (Tm.over 3).row=[([],3)]:=qkp (by simp only [Tm.fine,Tm.good];decide) (by decide);have r0:qio ([⟨#[97]⟩],3) ⟨#[97]⟩=(([],3),true):=by decide
 have r1:qio ([],3) ⟨#[]⟩=(([],3),true):=by decide
 have k0:(enL g0.row)[0]'(by rw [yqw];decide)=(1,1):=by simp only [yqw];rfl
 have k1:(enL g1.row)[0]'(by rw [yhq];decide)=(2,4):=by simp only [yhq];rfl
 have k2:(enL g1.row)[1]'(by rw [yhq];decide)=(2,5):=by simp only [yhq];rfl
 have h0:hitR g0.row ([⟨#[97]⟩],3) (1,1):=by unfold hitR;rw [ycb,r0,g1f];decide
 have h1:¬hitR g1.row ([],3) (2,4):=by unfold hitR;rw [xhq,r1,ov1];decide
 have h2:hitR g1.row ([],3) (2,5):=by unfold hitR;rw [ykm,r1,ov3];decide
 have e0:=ybx (c:=2) (l:=g0.row) (t:=([⟨#[97]⟩],3)) (k:=0) (by rw [yqw];decide) (by rw [k0];exact h0) (fun j hj=>absurd hj (Nat.not_lt_zero _));have e1:=ybx (c:=1) (l:=g1.row) (t:=([],3)) (k:=1) (by rw [yhq];decide) (by rw [k2];exact h2) (fun j hj=>by
  obtain rfl:j=0:=by omega
  rw [k1];exact h1)
 rw [k0,ycb,r0] at e0;rw [k2,ykm,r1] at e1;rw [e0];show (_,true)=_;rw [e1,qxq];rfl
theorem zcj [Dfr] [zda] [zew] [zlf] [qfq] [qhj]:zcu=some true:=by
 have eg:([(7,ByteArray.empty,0),(1,⟨#[97]⟩,0),(4,ByteArray.empty,0)]:List Nd)=g0.row:=rfl;have a0:zyr g0.row=some (g0.tr,0):=by rw [qgc,qfq.all];unfold zzx allR;rw [if_pos ⟨by decide,by decide⟩,qjr ycr,if_pos rfl,zse ycr]
 have a1:zyr [(2,ByteArray.empty,0)]=some ([],1):=by rw [qgc,qfq.all];unfold zzx allR;rw [if_pos ⟨by decide,by decide⟩,xdb,if_neg (by decide)]
 have f0:qrh g0.row ([⟨#[97]⟩],3)=some ([0,1],true):=by rw [yfa,qhj.find];unfold qcs;rw [if_pos ⟨by decide,by decide,by decide⟩,xbq]
 have t0:zwk ((Tm.over 3).row,[⟨#[97]⟩],2)=(([⟨#[97]⟩],3),true):=rfl;have t1:zwk (g1.row,[⟨#[97]⟩],1)=(([],0),false):=rfl;have x0:qko ([⟨#[97]⟩],3)=some ⟨#[97,32,63]⟩:=((quz _).iff _).2 ⟨40,by kernel_rfl⟩;have i0:qdl [0,1] [0,1]=some true:=by rw [yft _ _ (by decide),decide_eq_true rfl]
 rw [qwm,eg];simp only [zko _ _ (show g0.row.length≤400000 by decide) (show ([0,1,7]:List Int).length≤1000000 by decide),zko _ _ (show g0.row.length≤400000 by decide) (show ([0]:List Int).length≤1000000 by decide),xhj,xbp,Option.bind_some,
  zuk _ (show ((Tm.over 3).row,([⟨#[97]⟩]:List ByteArray),(2:Int)).2.1.length≤1000000 by decide),zuk _ (show (g1.row,([⟨#[97]⟩]:List ByteArray),(1:Int)).2.1.length≤1000000 by decide),t0,t1,a0,a1,f0,x0,i0,xjd,beq_self_eq_true,cond_true]
 rfl
theorem qpr [Dfr] {l:List Nd} (hl:yis l):l.length≤4611686018427387904:=Nat.le_trans hl.1 (by decide)
theorem ypl [Dfr] [qfq] (l:List Nd) (hl:l.length≤1000000) (h8:cntW l≤8):zyr l=some (allR l):=by rw [qgc,qfq.all];unfold zzx;rw [if_pos ⟨hl,h8⟩]
theorem yzu [Dfr] {m:Tm} (h:m.small):m.st.small:=by obtain ⟨h1,h2⟩:=h;have e1:=Tm.zcd m;have e2:=Tm.xfu w1 ynp m;rw [←yvg,←yvg] at e2;exact ⟨by omega,by omega⟩
theorem qxl [Dfr] {l:List Nd} (h:zzz l=true):∃m:Tm,l=m.row∧m.fine∧m.size≤200∧m.pl=true∧m.po=true:=by
 unfold zzz at h;rw [Bool.and_eq_true] at h;have h1:sOf l=1:=of_decide_eq_true h.1;obtain ⟨m,e,hf,hz,hso⟩:=ytm (l:=l) (by rw [h1];decide);have hpl:m.pl=true:=by rw [Tm.xlg,←hso];exact decide_eq_true h1
 exact ⟨m,e,hf,hz,hpl,Tm.zcg hpl⟩
theorem zrg [Dfr] [qnp] [zda] [zew] [zlf] [qfq] [qhj] (l:List Nd) (hl:yis l):qck l=some true:=by
 rw [qjh,qvk l (qpr hl),Option.bind_some,qwl l (qpr hl),Option.bind_some];by_cases hf:(l.length≤100∧dep l≤24)∧cntW l≤8
 ·rw [decide_eq_true hf,Bool.not_true,cond_false,qch,Option.bind_some];by_cases hs:zug l
  ·rw [decide_eq_true hs,Bool.not_true,cond_false];cases hr:zzz l with
   |false=>simp only [Bool.false_eq_true,if_false,List.length_nil,Int.natCast_zero,beq_self_eq_true,cond_true,zcj,Option.bind_some]
   |true=>
    rw [if_pos rfl];obtain ⟨m,rfl,hfn,hz,hpl,hpo⟩:=qxl hr;have hst:zbp m.row=m.st.row:=zmu hfn hz (.inl hpo);have hsm:m.small:=zwo.1 hs;have hg:Good m.st:=⟨Tm.zvf hfn,Tm.yzt _,Tm.qnr hpo,yzu hsm⟩;have hc:=qub m.row;rw [hst] at hc ⊢;have hlen:=hg.len;have hne:((m.st.row.length:Int)==0)=false:=by rw [Bool.eq_false_iff];intro e;have:=eq_of_beq e;have h1:0<m.st.row.length:=List.length_pos_iff.2 hg.set.1;omega
    have ha:allR m.st.row=(m.tr,0):=by unfold allR;rw [if_pos (qjr hg),zse hg,(Tm.qzx m).1 hpo]
    have hsh:zwz m.tr:=fewT.short fun x hx=>Nat.le_trans (zcl hsm x hx) (by decide)
    have hln:=(zln hsm).1;simp only [hne,cond_false,ypl m.st.row (by omega) (by omega),ha,ygz m.row (qpr hl),qdq hfn hz hpo hsm,zcj,Option.bind_some,cond_true,beq_self_eq_true,yhe m.tr (by omega),yfz m.tr m.tr (by omega) hsh hsh,decide_true]
  ·rw [decide_eq_false hs];simp only [Bool.not_false,cond_true,zcj,Option.bind_some]
 ·rw [decide_eq_false hf];simp only [Bool.not_false,cond_true,zcj,Option.bind_some]
theorem qse [Dfr] {L:List Mv} {n:Int}:(zhj L n).2=0↔L≠[]:=by
 unfold zhj;split
 ·rename_i h;simp [h]
 ·rename_i h;simp [h]
theorem xhl [Dfr] {L:List Mv} {n:Int} (h:(zhj L n).2=0):(zhj L n).1∈L:=by
 unfold zhj at h ⊢;split at h
 ·cases h
 ·rename_i hne;rw [if_neg hne];have hpos:0<L.length:=List.length_pos_iff.2 hne;obtain ⟨h1,_⟩:=ynh n hpos;show L.getD _ _∈L;rw [List.getD_eq_getElem?_getD,List.getElem?_eq_getElem h1];exact List.getElem_mem h1
theorem yuo [Dfr] {l:List Nd} (h:enL l=[]) (A:List ByteArray) (n:Int):∀r,zcb l A n r=(l,A,n)
 |[]=>by rw [zcb]
 |p::r=>by rw [zcb,if_neg];rw [h];intro e;exact qse.1 e rfl
theorem ybw [Dfr]:∀(a b:List Int) (l:List Nd) (A:List ByteArray) (n:Int),zcb l A n (a++b)=zcb (zcb l A n a).1 (zcb l A n a).2.1 (zcb l A n a).2.2 b
 |[],b,l,A,n=>by
  show zcb l A n b=_
  conv=>rhs;rw [show zcb l A n []=(l,A,n) from by rw [zcb]]
 |p::a,b,l,A,n=>by
  show zcb l A n (p::(a++b))=_;rw [zcb,zcb];split
  ·exact ybw a b _ _ _
  ·rename_i h;have he:enL l=[]:=by
    by_cases h2:enL l=[]
    ·exact h2
    ·exact absurd (qse.2 h2) h
   rw [yuo he]
theorem qdo [Dfr]:∀(r:List Int) (l:List Nd) (A:List ByteArray) (n:Int),zcb l A n r=((zcb l [] 0 r).1,A++(zcb l [] 0 r).2.1,n+(zcb l [] 0 r).2.2)
 |[],l,A,n=>by rw [zcb,zcb];simp
 |p::r,l,A,n=>by
  rw [zcb,zcb];split
  ·obtain ⟨X,hX⟩:∃X,(zge l (zhj (enL l) p).1)=X:=⟨_,rfl⟩;rw [hX,qdo r X.1 _ (n+1),qdo r X.1 _ (0+1)];split
   ·simp [Int.add_assoc]
   ·simp [Int.add_assoc]
  ·simp
theorem qix [Dfr]:∀(r:List Int) (l:List Nd),0≤(zcb l [] 0 r).2.2∧(zcb l [] 0 r).2.2≤(r.length:Int)∧(zcb l [] 0 r).2.1.length≤r.length∧((zcb l [] 0 r).1.length≤l.length∨(zcb l [] 0 r).1.length≤200)
 |[],l=>by rw [zcb];simp
 |p::r,l=>by
  rw [zcb];split
  ·rw [qdo];obtain ⟨h1,h2,h3,h4⟩:=qix r (zge l (zhj (enL l) p).1).1;have hn:=qsn l (zhj (enL l) p).1;refine ⟨by simp only;omega,by simp only [List.length_cons];omega,?_,.inr ?_⟩
   ·split
    ·simp only [List.length_append,List.length_cons,List.length_nil];omega
    ·simp only [List.length_append,List.length_cons,List.length_nil];omega
   ·rcases h4 with h4|h4
    ·exact Nat.le_trans h4 hn
    ·exact h4
  ·simp;omega
theorem qbs [Dfr] (xs ys:List ByteArray) (b:Bool) (hx:xs.length≤1000000) (hl:xs.length=ys.length):∀(r:List ByteArray) (i:Nat),xs.drop i=r→zpm xs ys b (i:Int)=some (if r=ys.drop i then (0,b) else (1,false))
 |[],i,h=>by obtain ⟨h1,h2⟩:=drop_nil h;rw [zxc];have:ys.drop i=[]:=List.drop_eq_nil_of_le (by omega);simp only [h2,cond_false];simp [this]
 |x::r,i,h=>by
  obtain ⟨h1,h2,h3,h4,h5,h6⟩:=zae h;obtain ⟨y,s,hy⟩:∃y s,ys.drop i=y::s:=by
   cases e:ys.drop i with
   |nil=>have:=drop_nil e;omega
   |cons y s=>exact ⟨y,s,rfl⟩
  obtain ⟨k1,k2,k3,k4,k5,k6⟩:=zae hy;rw [zxc];simp only [h2,h3,h4,k3,k4,cond_true,str_eq,zbj (show i<9223372036854775807 by omega),qbs xs ys b hx hl r (i+1) h5,hy,k5];by_cases e:x=y
  ·subst e;by_cases e2:r=s<;>simp [e2]
  ·simp [e]
theorem qis [Dfr] (xs ys:List ByteArray) (hx:xs.length≤1000000):zyz xs ys=some (decide (xs=ys)):=by
 rw [qvq];by_cases hl:xs.length=ys.length
 ·have hb:((xs.length:Int) != (ys.length:Int))=false:=by rw [hl];simp
  have e:=qbs xs ys false hx hl xs 0 rfl;rw [Int.natCast_zero,List.drop_zero] at e;rw [hb,cond_false,e,Option.bind_some];by_cases h:xs=ys
  ·rw [if_pos h,decide_eq_true h];rfl
  ·rw [if_neg h,decide_eq_false h];rfl
 ·have hb:((xs.length:Int) != (ys.length:Int))=true:=by rw [bne_iff_ne];omega
  rw [hb,cond_true,decide_eq_false fun h=>hl (by rw [h])]
theorem zrh [Dfr] [zda] [zew] [zlf] [qfq] [qhj] (l:List Nd) (a b:List Int) (hl:yis l) (ha:(Ty.slice 3 (.int .i64)).wf a) (hb:(Ty.slice 3 (.int .i64)).wf b):qcl l a b=some true:=by
 have ha1:a.length≤reachBytes:=ha.1;have hb1:b.length≤reachBytes:=hb.1;rw [qji,zzl l (qpr hl),Option.bind_some];by_cases hf:l.length≤100∧dep l≤24
 ·rw [decide_eq_true hf,Bool.not_true,cond_false];have hw:w64 ((a.length:Int)+(b.length:Int))=((a.length+b.length:Nat):Int):=by
   have e:(a.length:Int)+(b.length:Int)=((a.length+b.length:Nat):Int):=by omega
   rw [e];exact qyy (by simp only [reachBytes] at ha1 hb1;omega)
  rw [hw];by_cases h60:a.length+b.length≤60
  ·rw [decide_eq_false (show ¬((a.length+b.length:Nat):Int)>60 by omega),cond_false];have hc:(zbe 0 (a.length:Int) a.length&&decide ((a.length:Int)=(a.length:Int)))=true:=by simp [zbe]
   have hcut:cut a 0 (a.length:Int)=a:=by simp [cut]
   rw [hc,cond_true,hcut,room (show (a.length+b.length)*8≤140737488355328 by omega),cond_true];obtain ⟨p1,p2,p3,p4⟩:=qix a l;obtain ⟨q1,q2,q3,q4⟩:=qix b (zcb l [] 0 a).1;have e1:zcb l [] 0 (a++b)=((zcb (zcb l [] 0 a).1 [] 0 b).1,(zcb l [] 0 a).2.1++(zcb (zcb l [] 0 a).1 [] 0 b).2.1,(zcb l [] 0 a).2.2+(zcb (zcb l [] 0 a).1 [] 0 b).2.2):=by rw [ybw,qdo]
   have hy:(zcb l [] 0 a).1.length≤400000:=by omega
   have hz:(zcb (zcb l [] 0 a).1 [] 0 b).1.length≤400000:=by omega
   have hw2:w64 ((zcb l [] 0 a).2.2+(zcb (zcb l [] 0 a).1 [] 0 b).2.2)=(zcb l [] 0 a).2.2+(zcb (zcb l [] 0 a).1 [] 0 b).2.2:=zgz (by omega) (by omega);simp only [zko l (a++b) (by omega) (by rw [List.length_append];omega),zko l a (by omega) (by omega),zko (zcb l [] 0 a).1 b hy (by omega),Option.bind_some,zcj,cond_true,e1,
    zuo (zcb (zcb l [] 0 a).1 [] 0 b).1 (zcb (zcb l [] 0 a).1 [] 0 b).1 (by omega),decide_true,hw2,beq_self_eq_true,ykb (zcb l [] 0 a).2.1 (zcb (zcb l [] 0 a).1 [] 0 b).2.1 (by omega)]
   rw [qis _ _ (by rw [List.length_append];omega),decide_eq_true rfl];rfl
  ·rw [decide_eq_true (show ((a.length+b.length:Nat):Int)>60 by omega)];simp only [cond_true,zcj,Option.bind_some]
 ·rw [decide_eq_false hf];simp only [Bool.not_false,cond_true,zcj,Option.bind_some]
def EndT (n:Tm):Prop:=n.fine∧n.st=n∧n.po=true∧n.okB=true∧n.size≤200
theorem EndT.set [Dfr] {n:Tm} (h:EndT n):setL n.row:=qhx h.1 h.2.2.2.2 (.inl h.2.2.1) h.2.1
theorem xcs [Dfr] {n:Tm} (h:EndT n) {mv:Mv} (hm:mv∈enL n.row):∃n':Tm,(zge n.row mv).1=n'.row∧EndT n':=by
 have hs:=h.set;obtain ⟨c,u,e,hu,h1,h2⟩:=xib hm;subst e;have hme:mv=((c.pos:Int),mv.2):=by rw [←h1]
 rw [hme] at h2;obtain ⟨n1,n2,n3,n4,_⟩:=ycc hs hu h2;have hpo:=n4 h.2.2.1;have e1:(zge (c.fill u).row mv).1=(c.fill (u.mdT mv.2)).st.row:=by rw [hme];exact congrArg Prod.fst n1
 have hsz:=Tm.zcd (c.fill (u.mdT mv.2));have hw:=(qps hu).1 h2;rw [qto hs] at hw;have hk:=(Tm.zzp hu c true (.inl h.2.2.1) hw h.2.2.2.1).1;exact ⟨_,e1,Tm.zvf n2,Tm.yzt _,Tm.qnr hpo,(Tm.xge _ n2 (.inl hpo) hk).1,by have:=h.2.2.2.2;omega⟩
theorem xbx [Dfr] (kd at_:Int) (f:Bool):zjm kd at_ f≠[]:=by
 unfold zjm;split
 ·simp
 ·split
  ·simp
  ·simp
theorem qts [Dfr] {n:Tm} (h:EndT n):enL n.row=[]↔n.zhq=true:=by
 constructor
 ·intro he;have hw:¬n.waits=true:=fun hw=>by
   have hne:=(Tm.zpv n 0).2 hw;obtain ⟨k,hk⟩:=List.exists_mem_of_ne_nil _ hne;have ht:tree n.row=some n.t:=zpi (Tm.t_ok n);obtain ⟨mv,hmv⟩:=List.exists_mem_of_ne_nil _ (xbx (n.row.getD k default).1 (k:Int) (qej n.t k));have:mv∈enL n.row:=by rw [qjw ht h.set];exact List.mem_flatMap.2 ⟨k,hk,hmv⟩
   rw [he] at this;cases this
  rcases Tm.yer n h.2.1 h.1 (.inl h.2.2.1) with h1|h1|h1|h1
  ·exact absurd h1 hw
  ·exact h1
  ·cases n<;>first|(cases h1;done)|exact absurd (show false=true from h.2.2.1) Bool.false_ne_true
  ·rw [Tm.zuq n h.2.2.2.1] at h1;cases h1
 ·intro ho;cases n<;>first|exact ykk _|cases ho
theorem yng [Dfr]:∀(ps:List Int) (n:Tm) (A:List ByteArray) (k:Int),EndT n→∃n':Tm,(zcb n.row A k ps).1=n'.row∧EndT n'∧((zcb n.row A k ps).2.2<k+(ps.length:Int)→n'.zhq=true)
 |[],n,A,k,h=>by rw [zcb];exact ⟨n,rfl,h,fun h2=>by simp at h2⟩
 |p::ps,n,A,k,h=>by
  rw [zcb];split
  ·rename_i h0;obtain ⟨n1,e1,h1⟩:=xcs h (xhl h0);rw [e1];obtain ⟨n',e2,h2,h3⟩:=yng ps n1 (if (zhj (enL n.row) p).1.2=1 then A++[(zge n.row (zhj (enL n.row) p).1).2.1] else A) (k+1) h1;exact ⟨n',e2,h2,fun h4=>h3 (by simp only [List.length_cons] at h4;omega)⟩
  ·rename_i h0;refine ⟨n,rfl,h,fun _=>(qts h).1 ?_⟩;by_cases h2:enL n.row=[]
   ·exact h2
   ·exact absurd (qse.2 h2) h0
theorem yow [Dfr] (n:Tm) (A:List ByteArray) (z:Int):zwk (n.row,A,z)=match n with| .over s=>((A,s),true)|_=>(([],0),false):=by
 have e:=(zvn n.row).symm.trans (zjo n);have e2:=Option.some.inj e;unfold zwk;simp only;revert e2;generalize n.row=l;intro e2
 match l,e2 with
 |[],e2=>simp only at e2 ⊢;cases n<;>first|rfl|(cases e2)
 |[x],e2=>
  simp only at e2 ⊢;by_cases h:x.1=11
  ·rw [if_pos h] at e2 ⊢;cases n<;>first|(cases e2;done)|(have:=congrArg Prod.fst e2;simp only at this;subst this;rfl)|(have:=congrArg Prod.snd e2;cases this)
  ·rw [if_neg h] at e2 ⊢;cases n<;>first|rfl|(have:=congrArg Prod.snd e2;cases this)
 |_::_::_,e2=>simp only at e2 ⊢;cases n<;>first|rfl|(have:=congrArg Prod.snd e2;cases this)
theorem yzl [Dfr] (n:Tm) (A:List ByteArray) (z:Int):(zwk (n.row,A,z)).2=n.zhq:=by rw [yow];cases n<;>rfl
theorem zuv [Dfr] [zda] [zew] [zlf] [qfq] [qhj] (l:List Nd) (ps:List Int) (hl:yis l) (hp:(Ty.slice 3 (.int .i64)).wf ps):qjj l ps=some true:=by
 rw [qok,ybl l (qpr hl) hl.names,Option.bind_some,zzl l (qpr hl),Option.bind_some];by_cases hf:l.length≤100∧dep l≤24
 ·rw [decide_eq_true hf,Bool.not_true,cond_false];cases hr:zzz l with
  |false=>simp only [Bool.false_eq_true,if_false,List.length_nil,Int.natCast_zero,beq_self_eq_true,cond_true,zcj,Option.bind_some]
  |true=>
   rw [if_pos rfl];obtain ⟨m,rfl,hfn,hz,hpl,hpo⟩:=qxl hr;have hst:zbp m.row=m.st.row:=zmu hfn hz (.inl hpo);have hok:=(Tm.xge m hfn (.inl hpo) ((Tm.qao m).1 hpl).1).1;have hsz:=Tm.zcd m;have hE:EndT m.st:=⟨Tm.zvf hfn,Tm.yzt _,Tm.qnr hpo,hok,by omega⟩;rw [hst];have hlen:m.st.row.length≤200:=by rw [Tm.zab];omega
   have hne:((m.st.row.length:Int)==0)=false:=by rw [Bool.eq_false_iff];intro e;have:=eq_of_beq e;have h1:0<m.st.row.length:=List.length_pos_iff.2 hE.set.1;omega
   rw [hne,cond_false];by_cases h100:ps.length≤100
   ·rw [decide_eq_false (show ¬(ps.length:Int)>100 by omega),cond_false,zko m.st.row ps (by omega) (by omega),Option.bind_some];obtain ⟨n',e1,hn',hover⟩:=yng ps m.st [] 0 hE;obtain ⟨q1,q2,q3,q4⟩:=qix ps m.st.row;have happ:=ybw ps [0] m.st.row [] 0;obtain ⟨R,hR⟩:∃R,zcb m.st.row [] 0 ps=R:=⟨_,rfl⟩;rw [hR] at e1 hover q1 q2 q3 q4 happ ⊢;obtain ⟨L,A,N⟩:=R;simp only at e1 hover q1 q2 q3 q4 happ;subst e1;have hc:(zbe 0 (ps.length:Int) ps.length&&decide ((ps.length:Int)=(ps.length:Int)))=true:=by simp [zbe]
    have hc2:zbe 0 (ps.length:Int) ps.length=true:=by simp [zbe]
    have hcut:cut ps 0 (ps.length:Int)=ps:=by simp [cut]
    have hen:zfr n'.row=some (enL n'.row):=zku n'.row (by omega);have hw:w64 (N+1)=N+1:=zgz (by omega) (by omega);have hmore:(zcb n'.row A N [0]).2.2=if n'.zhq=true then N else N+1:=by
     rw [zcb];by_cases ho:n'.zhq=true
     ·rw [if_neg fun h=>qse.1 h ((qts hn').2 ho),if_pos ho]
     ·rw [if_pos (qse.2 fun h=>ho ((qts hn').1 h)),if_neg ho,zcb]
    have hlen0:(((enL n'.row).length:Int)==0)=n'.zhq:=by
     by_cases ho:n'.zhq=true
     ·rw [(qts hn').2 ho,ho];rfl
     ·have h1:enL n'.row≠[]:=fun h=>ho ((qts hn').1 h)
      have h2:=List.length_pos_iff.2 h1;rw [Bool.not_eq_true] at ho;rw [ho,Bool.eq_false_iff];intro e;have:=eq_of_beq e;omega
    simp only [zuk (n'.row,A,N) (by simp only;omega),Option.bind_some,yzl,hc,hcut,cond_true,room (show (ps.length+1)*8≤140737488355328 by omega),zko m.st.row (ps++[0]) (by omega) (by rw [List.length_append];simp;omega),happ,hmore,zcj,hen,hlen0,hw,beq_self_eq_true];cases ho:n'.zhq with
    |true=>simp [hc2]
    |false=>
     have hN:¬N<(ps.length:Int):=fun h=>by have:=hover (by omega);rw [ho] at this;cases this
     simp [hN,hc2]
   ·rw [decide_eq_true (show (ps.length:Int)>100 by omega)];simp only [cond_true,zcj,Option.bind_some]
 ·rw [decide_eq_false hf];simp only [Bool.not_false,cond_true,zcj,Option.bind_some]
theorem xcz [Dfr] (t:Tc):cmpT t t= .eq:=(ordT.eq t t).2 rfl
theorem zvr [Dfr] [zda] [zew] [zlf] (y4:List Nd×Tc) (ps:List Int) (hp:ps.length≤1000000):∀(r:List Int) (i:Nat) (l:List Nd) (A:List ByteArray) (k:Nat),ps.drop i=r→l.length≤400000→(∀n∈l,n.2.1.size≤9223372036854775807)→A.length≤i→k≤i→
 ∃(e:Nat) (z1 z2:List Nd×Tc),zny ps y4 (l,A,(k:Int)) (i:Int)=some (e,(z1,z2))∧(bif Nat.beq e 0 then some z2 else some z1)=some (zcb l A (k:Int) r)
 |[],i,l,A,k,h,hl,hn,hA,hk=>by obtain ⟨h1,h2⟩:=drop_nil h;rw [qaa];simp only [h2,cond_false];exact ⟨_,_,_,rfl,rfl⟩
 |p::r,i,l,A,k,h,hl,hn,hA,hk=>by
  obtain ⟨h1,h2,h3,h4,h5,h6⟩:=zae h;rw [qaa];simp only [h2,h3,h4,cond_true,yfs l p (by omega) hn,Option.bind_some];unfold zcb;by_cases h0:(zhj (enL l) p).2=0
  ·have hb:((zhj (enL l) p).2 != 0)=false:=by rw [h0];rfl
   rw [if_pos h0];simp only [hb,cond_false,yfr l _ (show l.length≤400000 from hl) hn,Option.bind_some];have hnl:=qsn l (zhj (enL l) p).1;have hnn:=xbu l (zhj (enL l) p).1;have hw:w64 ((k:Int)+1)=((k+1:Nat):Int):=zbj (by omega);by_cases h1:(zhj (enL l) p).1.2=1
   ·have hb1:((zhj (enL l) p).1.2==1)=true:=by rw [h1];rfl
    rw [if_pos h1];simp only [hb1,cond_true,hw,room (show (A.length+1)*16≤140737488355328 by omega),zbj (show i<9223372036854775807 by omega)];obtain ⟨e,z1,z2,h7,h8⟩:=zvr y4 ps hp r (i+1) (zge l (zhj (enL l) p).1).1 (A++[(zge l (zhj (enL l) p).1).2.1]) (k+1) h5 (by omega) hnn (by simp;omega) (by omega);exact ⟨e,z1,z2,h7,by rw [h8];rfl⟩
   ·have hb1:((zhj (enL l) p).1.2==1)=false:=by rw [Bool.eq_false_iff];intro e;exact h1 (eq_of_beq e)
    rw [if_neg h1];simp only [hb1,cond_false,hw,zbj (show i<9223372036854775807 by omega)];obtain ⟨e,z1,z2,h7,h8⟩:=zvr y4 ps hp r (i+1) (zge l (zhj (enL l) p).1).1 A (k+1) h5 (by omega) hnn (by omega) (by omega);exact ⟨e,z1,z2,h7,by rw [h8];rfl⟩
  ·have hb:((zhj (enL l) p).2 != 0)=true:=by rw [bne_iff_ne];exact h0
   rw [if_neg h0];simp only [hb,cond_true];exact ⟨_,_,_,rfl,rfl⟩
theorem yfo [Dfr] [zda] [zew] [zlf] (l:List Nd) (ps:List Int) (hl:l.length≤400000) (hn:∀n∈l,n.2.1.size≤9223372036854775807) (hp:ps.length≤1000000):qky l ps=some (zcb l [] 0 ps):=by obtain ⟨e,z1,z2,h7,h8⟩:=zvr ([],[],0) ps hp ps 0 l [] 0 rfl hl hn (Nat.le_refl _) (Nat.le_refl _);rw [Int.natCast_zero] at h7 h8;rw [yax];simp only [h7,Option.bind_some];exact h8
theorem yhc [Dfr] (a:List Nd×Tc) (h1:a.1.length≤1000000) (h2:a.2.1.length≤1000000):qlq a a=some true:=by rw [ycn];simp only [zuo a.1 a.1 (by omega),qis a.2.1 a.2.1 (by omega),Option.bind_some,decide_true,cond_true,beq_self_eq_true]
theorem yox [Dfr] (r:List Nd×Tc):(zwk r).1.1.length≤r.2.1.length:=by
 unfold zwk;split
 ·split
  ·exact Nat.le_refl _
  ·exact Nat.zero_le _
 ·exact Nat.zero_le _
theorem ztj [Dfr] [zda] [zew] [zlf] [qfq] [qhj] (l:List Nd) (ps:List Int) (hl:yis l) (hp:(Ty.slice 3 (.int .i64)).wf ps):qfe l ps=some true:=by
 rw [qlr,zzl l (qpr hl),Option.bind_some];by_cases hf:l.length≤100∧dep l≤24
 ·rw [decide_eq_true hf,Bool.not_true,cond_false];by_cases h60:ps.length≤60
  ·rw [decide_eq_false (show ¬(ps.length:Int)>60 by omega),cond_false,room (show (0+l.length)*32≤140737488355328 by omega),cond_true];obtain ⟨p1,p2,p3,p4⟩:=qix ps l;obtain ⟨R,hR⟩:∃R,zcb l [] 0 ps=R:=⟨_,rfl⟩;rw [hR] at p1 p2 p3 p4;have ht:=yox R;simp only [zko l ps (by omega) (by omega),yfo l ps (by omega) hl.names (by omega),hR,Option.bind_some,zuk R (by omega),yaw R,zcj,cond_true,yhc R (by omega) (by omega),
    qbw (zwk R).1 (zwk R).1 (by omega) (by omega),xcz,ordN,beq_self_eq_true,List.nil_append,zuo l l (by omega),decide_true]
  ·rw [decide_eq_true (show (ps.length:Int)>60 by omega)];simp only [cond_true,zcj,Option.bind_some]
 ·rw [decide_eq_false hf];simp only [Bool.not_false,cond_true,zcj,Option.bind_some]
end Go.Proofs.YtjolkdjkhekbnaaGreatDoor.Sv
