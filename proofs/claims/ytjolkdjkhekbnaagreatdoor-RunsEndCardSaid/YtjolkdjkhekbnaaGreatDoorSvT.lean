/-
  DERIVED: THE SHELF's CONTRACTS AT THIS DUMP, IN PLAIN WORDS (tools/lay-plain.mjs out of 'TryzShelf.lean', which tools/lay-shelf.mjs wrote): THE SAME DECLARATIONS UNDER THE SAME NAMES: 'import', 'namespace', 'open', 'def', 'theorem' AND NOTHING ELSE: no command of the shelf's: FOR A HAND-IN. Each laying: the table of numbers ('.._ren') and one theorem, a field a fact of the dump's own or the kernel's comparison; each contract: ONE APPLICATION.
-/
import Derived.Test.YtjolkdjkhekbnaaGreatDoorProg
import Derived.Shelf.Strings.SlTrimAscii
set_option linter.unusedVariables false
set_option linter.unusedSimpArgs false
namespace Go.Proofs
open Go.Shelf
def Tryz.ykz:Go.Shelf.Ren:=⟨fun|160=>277|232=>290|231=>289|227=>291|234=>293|233=>292|236=>295|235=>294|228=>301|271=>304|151=>303|197=>302|120=>307|152=>306|260=>305|137=>308|119=>309|224=>310|225=>311|217=>312|266=>313|n=>n,fun|9=>9|4=>4|3=>3|5=>5|117=>274|116=>273|0=>0|124=>277|21=>21|105=>282|46=>151|119=>288|139=>291|138=>290|n=>n,fun|3=>4|4=>5|n=>n⟩
theorem Tryz.xhu:Go.Proofs.Lays.n160 Tryz.prog Tryz.ykz:={
 mixed:=by kernel_rfl
 f119:=Tryz.func309.trans (congrArg some (by kernel_rfl))
 f120:=Tryz.func307.trans (congrArg some (by kernel_rfl))
 f137:=Tryz.func308.trans (congrArg some (by kernel_rfl))
 f151:=Tryz.func303.trans (congrArg some (by kernel_rfl))
 f152:=Tryz.func306.trans (congrArg some (by kernel_rfl))
 f160:=Tryz.func277.trans (congrArg some (by kernel_rfl))
 f197:=Tryz.func302.trans (congrArg some (by kernel_rfl))
 f217:=Tryz.func312.trans (congrArg some (by kernel_rfl))
 f224:=Tryz.func310.trans (congrArg some (by kernel_rfl))
 f225:=Tryz.func311.trans (congrArg some (by kernel_rfl))
 f227:=Tryz.func291.trans (congrArg some (by kernel_rfl))
 f228:=Tryz.func301.trans (congrArg some (by kernel_rfl))
 f231:=Tryz.func289.trans (congrArg some (by kernel_rfl))
 f232:=Tryz.func290.trans (congrArg some (by kernel_rfl))
 f233:=Tryz.func292.trans (congrArg some (by kernel_rfl))
 f234:=Tryz.func293.trans (congrArg some (by kernel_rfl))
 f235:=Tryz.func294.trans (congrArg some (by kernel_rfl))
 f236:=Tryz.func295.trans (congrArg some (by kernel_rfl))
 f260:=Tryz.func305.trans (congrArg some (by kernel_rfl))
 f266:=Tryz.func313.trans (congrArg some (by kernel_rfl))
 f271:=Tryz.func304.trans (congrArg some (by kernel_rfl))
 t0:=Tryz.underlying0
 a0:=Tryz.isAgg0
 z0:=Tryz.sizeOf0
 v0:=Tryz.zeroValue0
 t3:=Tryz.underlying3
 a3:=Tryz.isAgg3
 z3:=Tryz.sizeOf3
 v3:=Tryz.zeroValue3
 t4:=Tryz.underlying4
 a4:=Tryz.isAgg4
 z4:=Tryz.sizeOf4
 v4:=Tryz.zeroValue4
 t5:=Tryz.underlying5
 a5:=Tryz.isAgg5
 z5:=Tryz.sizeOf5
 v5:=Tryz.zeroValue5
 t9:=Tryz.underlying9
 a9:=Tryz.isAgg9
 z9:=Tryz.sizeOf9
 v9:=Tryz.zeroValue9
 t21:=Tryz.underlying21
 a21:=Tryz.isAgg21
 z21:=Tryz.sizeOf21
 v21:=Tryz.zeroValue21
 t46:=Tryz.underlying151
 a46:=Tryz.isAgg151
 z46:=Tryz.sizeOf151
 v46:=Tryz.zeroValue151
 t105:=Tryz.underlying282
 a105:=Tryz.isAgg282
 z105:=Tryz.sizeOf282
 v105:=Tryz.zeroValue282
 t116:=Tryz.underlying273
 a116:=Tryz.isAgg273
 z116:=Tryz.sizeOf273
 t117:=Tryz.underlying274
 a117:=Tryz.isAgg274
 z117:=Tryz.sizeOf274
 v117:=Tryz.zeroValue274
 t119:=Tryz.underlying288
 a119:=Tryz.isAgg288
 z119:=Tryz.sizeOf288
 t124:=Tryz.underlying277
 a124:=Tryz.isAgg277
 z124:=Tryz.sizeOf277
 v124:=Tryz.zeroValue277
 t138:=Tryz.underlying290
 a138:=Tryz.isAgg290
 z138:=Tryz.sizeOf290
 v138:=Tryz.zeroValue290
 t139:=Tryz.underlying291
 a139:=Tryz.isAgg291
 z139:=Tryz.sizeOf291
 v139:=Tryz.zeroValue291
 g3:=by kernel_rfl
 g4:=by kernel_rfl}
end Go.Proofs
namespace Go.Sv
open Go Go.Shelf Go.Proofs Go.RowKit
theorem yov {P:Program} {ρ:Ren} (L:Lays.n160 P ρ) (h116:(P.info? (ρ.t 116)).map (fun i=>(i.zero,i.size))=some (some (.agg (Array.replicate 256 (.bool false))),256)) (s cutset:ByteArray) (w:World) (hs:s.size≤9223372036854775807) (hcs:cutset.size<4294967281)
 (hascii:∀(j:Nat) b,cutset.data.toList[j]? =some b→b.toNat<128):
 Calls P (ρ.f 160) #[.string s,.string cutset] w fun e w'=>e= .returned (.string ⟨(Lib.trimS s.data.toList cutset.data.toList).toArray⟩)∧Below w.heap.size w w'∧w.drawn≤w'.drawn:=by
 have hn:∀t:ByteArray,t.size=0→t.data.toList=[]:=fun t ht=>List.eq_nil_of_length_eq_zero (by rw [←Lib.size_eq];exact ht)
 by_cases hs0:s.size=0
 ·refine (Any.strings_Trim_empty L s cutset w (.inl hs0)).mono fun e w' ⟨h1,h2⟩=>⟨?_,h2▸Below.refl _ _,h2▸Nat.le_refl _⟩
  rw [h1,hn s hs0]
  congr 2
  rw [←Lib.mk_data s,hn s hs0];rfl
 by_cases hc0:cutset.size=0
 ·refine (Any.strings_Trim_empty L s cutset w (.inr hc0)).mono fun e w' ⟨h1,h2⟩=>⟨?_,h2▸Below.refl _ _,h2▸Nat.le_refl _⟩
  rw [h1,hn cutset hc0,show Lib.trimS s.data.toList []=s.data.toList from by unfold Lib.trimS;rw [Lib.trimRightS_none,Lib.trimLeftS_none],Lib.mk_data]
 by_cases hc1:cutset.size=1
 ·obtain ⟨c,hc⟩:∃c,cutset.data.toList=[c]:=by
   have hlen:cutset.data.toList.length=1:=by rw [←Lib.size_eq];exact hc1
   match hh:cutset.data.toList,hlen with
   |[c],_=>exact ⟨c,rfl⟩
  have hcut:cutset=⟨#[c]⟩:=by rw [←Lib.mk_data cutset,hc]
  have h128:c.toNat<128:=hascii 0 c (by rw [hc];rfl);rw [hc,Lib.trimS_one,hcut];refine (Any.strings_Trim_one L s c h128 w hs).mono fun e w' ⟨h1,h2⟩=>⟨h1,?_⟩
  rcases h2 with rfl|rfl
  ·exact ⟨Below.refl _ _,Nat.le_refl _⟩
  ·exact ⟨(Below.refl _ _).drew,Nat.le_succ _⟩
 ·refine (Any.strings_Trim_set L (zero_of_info h116).1 (zero_of_info h116).2 s cutset w (by omega) (by omega) hs hcs hascii).mono fun e w' ⟨h1,h2⟩=>⟨h1,?_⟩
  obtain ⟨q,rfl⟩:=h2;exact ⟨(((Below.refl _ _).alloc (Nat.le_refl _) _).alloc (by simp) _).trans ⟨rfl,rfl,rfl,Nat.le_refl _,fun _ _=>rfl⟩,Nat.le_add_right _ _⟩
end Go.Sv
