/- XSynA -/
import Derived.Test.YtjnclkakbopnjaaGreatDoorLot08
set_option linter.unusedSimpArgs false
set_option linter.unusedVariables false
set_option maxRecDepth 100000
set_option maxHeartbeats 4000000
namespace Go.Proofs.YtjnclkakbopnjaaGreatDoor
open Go.Proofs.Tryz
open Go.RowKit
def rsvW:List (List UInt8):= [[97,98,115,116,114,97,99,116], [98,101,103,105,110], [98,108,111,99,107], [99,108,97,115,115], [99,108,101,97,110,117,112], [99,111,110,115,116,97,110,116], [100,101,102,105,110,101], [100,111,109,97,105,110], [101,97,99,104,45,115,117,98,99,108,97,115,115], [101,108,115,101], [101,108,115,101,105,102], [101,110,100], [101,120,112,111,114,116], [103,101,110,101,114,105,99], [104,97,110,100,108,101,114], [105,102], [105,109,112,111,114,116], [105,110,115,116,97,110,99,101,63], [108,101,116], [108,105,98,114,97,114,121], [108,105,109,105,116,101,100], [108,111,97,100,45,112,97,116,99,104], [108,111,99,97,108], [109,97,99,114,111], [109,97,107,101], [109,101,116,104,111,100], [110,101,120,116,45,109,101,116,104,111,100], [111,98,106,101,99,116,45,99,108,97,115,115], [112,97,116,99,104], [112,114,101,102,105,120], [112,114,105,110,116], [113,117,111,116,105,101,110,116], [115,101,97,108,101,100], [115,105,103,110,97,108], [115,105,110,103,108,101,116,111,110], [115,108,111,116], [115,117,98,99,108,97,115,115], [116,121,112,101,45,117,110,105,111,110], [117,115,101], [118,105,114,116,117,97,108]]
def QM4(l:List UInt8):Bool:=rsvW.contains l
def resText:List UInt8:= [32].intercalate rsvW
def QQz:Array UInt8:=#[97,98,115,116,114,97,99,116,32,98,101,103,105,110,32,98,108,111,99,107,32,99,108,97,115,115,32,99,108,101,97,110,117,112,32,99,111,110,115,116,97,110,116,32,100,101,102,105,110,101,32,100,111,109,97,105,110,32,101,97,99,104,45,115,117,98,99,108,97,115,115,32,101,108,115,101,32,101,108,115,101,105,102,32,101,110,100,32,101,120,112,111,114,116,32,103,101,110,101,114,105,99,32,104,97,110,100,108,101,114,32,105,102,32,105,109,112,111,114,116,32,105,110,115,116,97,110,99,101,63,32,108,101,116,32,108,105,98,114,97,114,121,32,108,105,109,105,116,101,100,32,108,111,97,100,45,112,97,116,99,104,32,108,111,99,97,108,32,109,97,99,114,111,32,109,97,107,101,32,109,101,116,104,111,100,32,110,101,120,116,45,109,101,116,104,111,100,32,111,98,106,101,99,116,45,99,108,97,115,115,32,112,97,116,99,104,32,112,114,101,102,105,120,32,112,114,105,110,116,32,113,117,111,116,105,101,110,116,32,115,101,97,108,101,100,32,115,105,103,110,97,108,32,115,105,110,103,108,101,116,111,110,32,115,108,111,116,32,115,117,98,99,108,97,115,115,32,116,121,112,101,45,117,110,105,111,110,32,117,115,101,32,118,105,114,116,117,97,108]
theorem QOh:QQz=⟨resText⟩:=by decide+kernel
theorem QMZ:Lib.fields resText=rsvW:=by decide+kernel
theorem QOi:∀(j:Nat) b,resText[j]?=some b→b.toNat<128:=by
 have h:resText.all (fun b=>decide (b.toNat<128))=true:=by decide+kernel
 intro j b hj;have:=List.all_eq_true.1 h b (List.mem_of_getElem? hj)
 simpa using this
theorem QJI(s:ByteArray):Lib.containsS (rsvW.map fun l=>(⟨l.toArray⟩:ByteArray)) s=QM4 s.data.toList:=by
 rw[Bool.eq_iff_iff,Lib.containsS_iff];unfold QM4;simp only[List.mem_map,List.contains_iff_mem];constructor
 ·
  rintro⟨l,hl,rfl⟩;simpa using hl
 ·
  intro h;exact⟨_,h,by cases s;simp⟩
theorem QCm(s:ByteArray)(w:World)(hE:Env w):Calls prog 17 #[.string s] w fun e w'=>e= .returned (.bool (QM4 s.data.toList))∧Below w.heap.size w w':=by
 have hF:=Tryz.strings_Fields ⟨⟨resText⟩⟩ w (by decide+kernel) QOi hE.spc;rw[show(⟨⟨resText⟩⟩:ByteArray).data.toList=resText from rfl,QMZ]at hF;have HF:=hd0 hF;clear hF hE;have hlen:rsvW.length=40:=by decide+kernel
 rw[hlen]at HF
 have hC:=Tryz.slices_Contains_string w.heap.size 0 40 40 (rsvW.map fun l=>(⟨l.toArray⟩:ByteArray)) s (w.alloc (.cells (rsvW.map fun l=>Value.string ⟨l.toArray⟩).toArray 9)) (by decide+kernel) (by omega) (fun j hj=>by
  rw[World.cell?_alloc_new];have:j<rsvW.length:=by simpa using hj
  simp[this])
 rw[List.take_of_length_le (by decide+kernel),QJI]at hC;have HC:=hd0 hC;clear hC;go_enter func17,ntmps17
 go_wp2_with fail
 have HF2:=HF.out;rw[←QOh]at HF2;unfold QQz at HF2;refine HF2.mono ?_;rintro e w' ⟨rfl,rfl⟩;clear HF2
 go_wp2_with fail
 refine HC.out.mono ?_;rintro e w' ⟨rfl,rfl⟩;go_wp2;go_ret;exact⟨rfl,(Below.refl _ _).alloc (Nat.le_refl _) _⟩
def QFn(l:List UInt8):List Tk:=if 20000<l.length then [] else match (QAV l).2 with
 |some _=> []
 |none=>QBX l (QAV l).1
theorem QMx(s:ByteArray)(w:World)(hE:Env w)(hs:s.size≤maxLen)(h9:9≤w.heap.size):Calls prog 29 #[.string s] w fun e w'=>
  ∃v,e= .returned v∧w'.ownsRow w.heap.size 193 5 v (QFn s.data.toList).length (QDC (QFn s.data.toList))∧Below w.heap.size w w':=by
 have hp:Calls prog 75 #[.string s] w fun e w'=>∃v a b,e= .returned (.tuple #[v,a,b])∧w'.ownsRow w.heap.size 193 5 v (QFn s.data.toList).length (QDC (QFn s.data.toList))∧Below w.heap.size w w':=by
  refine(QLt s w hE hs h9).mono ?_;rintro e w' ⟨hb,he⟩;have hz:=QAE s
  by_cases hbig:20000<s.size
  ·
   rw[if_pos hbig]at he;have:QFn s.data.toList= []:=by unfold QFn;rw[if_pos (by rw[hz];exact hbig)]
   exact⟨_,_,_,he,by rw[this];exact World.ownsRow_nil _ _ _ _,hb⟩
  ·
   rw[if_neg hbig]at he
   cases hpc:(QAV s.data.toList).2 with
   |some q=>
    rw[hpc]at he;have:QFn s.data.toList= []:=by unfold QFn;rw[if_neg (by rw[hz];exact hbig),hpc]
    exact⟨_,_,_,he,by rw[this];exact World.ownsRow_nil _ _ _ _,hb⟩
   |none=>
    rw[hpc]at he;have:QFn s.data.toList=QBX s.data.toList (QAV s.data.toList).1:=by unfold QFn;rw[if_neg (by rw[hz];exact hbig),hpc]
    obtain⟨v,he,ho⟩:=he;exact⟨v,_,_,he,by rw[this];exact ho,hb⟩
 have HP:=hd0 hp;clear hp hE hs h9;generalize QFn s.data.toList=ts at*;go_enter func29,ntmps29
 go_wp2_with fail
 refine HP.out.mono ?_;rintro e w1 ⟨v,a,b,rfl,ho,hb⟩;have HO:=hd0 ho;have HB:=hd0 hb;clear ho hb;go_wp2;go_ret;exact⟨v,rfl,HO.out,HB.out⟩
end Go.Proofs.YtjnclkakbopnjaaGreatDoor
