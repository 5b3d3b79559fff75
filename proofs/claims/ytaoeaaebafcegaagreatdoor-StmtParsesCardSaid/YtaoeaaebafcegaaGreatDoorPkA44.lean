/- Chapter 04 (statements), joined: StFxP. -/
import Derived.Test.YtaoeaaebafcegaaGreatDoorPkA16
import Derived.Test.YtaoeaaebafcegaaGreatDoorPkA23
set_option maxRecDepth 100000
namespace Go.Proofs.YtaoeaaebafcegaaGreatDoor
open Go Go.RowKit
set_option linter.unusedVariables false
def fT1:List UInt8:=[123,32,108,111,111,112,32,50,32,123,32,108,111,97,100,32,114,32,61,32,97,59,32,98,114,101,97,107,59,32,125,32,125,32,120]
def fT2:List UInt8:=[123,32,98,114,101,97,107,59,32,125]
def fT3:List UInt8:=[123,32,108,111,111,112,32,57,32,123,32,125,32,125]
def fT4:List UInt8:=[123,32,99,97,115,32,114,32,61,32,97,44,32,49]
def fT5:List UInt8:=[123,32,105,102,32,114,32,123,32,125,32,101,108,115,101,32,123,32,125,32,115,116,111,114,101,32,97,32,61,32,114,32,43,32,49,59,32,125]
def fS1:List St:=[⟨12,[],[],[],[],2,2,0,2⟩,⟨2,[114],[97],[],[],0,0,0,11⟩,⟨13,[],[],[],[],0,0,0,23⟩]
def fE1:List Nod:=[⟨2,0,[114],5⟩]
def fE2:List Nod:=[⟨5,0,[],32⟩,⟨2,0,[114],30⟩,⟨1,1,[],34⟩]
def fS5:List St:=[⟨11,[],[],fE1,[],0,0,0,2⟩,⟨3,[],[97],fE2,[],0,0,0,20⟩]
theorem fT1_p:parS (scanE fT1).1 0=(fS1,13,0,0):=by kernel_rfl
theorem fT2_p:parS (scanE fT2).1 0=([],0,5,2):=by kernel_rfl
theorem fT3_p:parS (scanE fT3).1 0=([],0,11,7):=by kernel_rfl
theorem fT4_p:parS (scanE fT4).1 0=([],0,6,14):=by kernel_rfl
theorem fT5_p:parS (scanE fT5).1 0=(fS5,16,0,0):=by kernel_rfl
def fX1:Ex:=.leaf ⟨2,0,[114],5⟩
def fX2:Ex:=.two ⟨5,0,[],32⟩ (.leaf ⟨2,0,[114],30⟩) (.leaf ⟨1,1,[],34⟩)
theorem fX1_ok:fX1.ok:=rfl
theorem fX2_ok:fX2.ok:=⟨rfl,rfl,rfl⟩
theorem fE1_r:rightE fE1=true:=by
 have h:fE1=fX1.flat:=rfl
 rw [h,rightE_flat _ fX1_ok];decide +kernel
theorem fE2_r:rightE fE2=true:=by
 have h:fE2=fX2.flat:=rfl
 rw [h,rightE_flat _ fX2_ok];decide +kernel
theorem fE1_s:showE fE1 = [114]:=by
 unfold showE
 rw [if_pos fE1_r,show fE1=fX1.flat from rfl,treeE_flat _ fX1_ok]
 show fX1.show=_
 simp [fX1, Ex.show]
theorem fE2_s:showE fE2 = [114,32,43,32,49]:=by
 unfold showE
 rw [if_pos fE2_r,show fE2=fX2.flat from rfl,treeE_flat _ fX2_ok]
 show fX2.show=_
 simp [fX2,Ex.show,Ex.brk,Lib.itoa,Lib.decDigits,sg,sgnL]
theorem fS1_fits:∀ x∈fS1,Fits x:=by
 intro x hx
 simp only [fS1,List.mem_cons,List.not_mem_nil,or_false] at hx
 rcases hx with rfl | rfl | rfl
 ·exact ⟨by decide,by decide,by decide,by decide,rfl,rfl,rfl,rfl,⟨by decide,by decide⟩⟩
 ·exact ⟨by decide,by decide,by decide,by decide,(by decide +kernel:nameE [114] = true),(by decide +kernel:nameE [97] = true),rfl,rfl,rfl⟩
 ·exact ⟨by decide,by decide,by decide,by decide,rfl,rfl,rfl,rfl,rfl⟩
theorem fS5_fits:∀ x∈fS5,Fits x:=by
 intro x hx
 simp only [fS5,List.mem_cons,List.not_mem_nil,or_false] at hx
 rcases hx with rfl | rfl
 ·exact ⟨by decide,by decide,by decide,by decide,rfl,rfl,fE1_r,rfl,rfl⟩
 ·exact ⟨by decide,by decide,by decide,by decide,rfl,(by decide +kernel:nameE [97] = true),fE2_r,rfl,rfl⟩
theorem fS1_rd:Rd false fS1 1:=by
 have h2:Rd true [(⟨2,[114],[97],[],[],0,0,0,11⟩:St),⟨13,[],[],[],[],0,0,0,23⟩] 0 :=
  .leaf (by decide) (by decide) rfl rfl (fun h=>absurd h (by decide)) (.leaf (by decide) (by decide) rfl rfl (fun _=>rfl) .nil)
 exact .loop (x:=⟨12,[],[],[],[],2,2,0,2⟩) (r:=[]) rfl rfl rfl h2 .nil
theorem fS5_rd:Rd false fS5 1:=by
 have h2:Rd false [(⟨3,[],[97],fE2,[],0,0,0,20⟩:St)] 0:=.leaf (by decide) (by decide) rfl rfl (fun h=>absurd h (by decide)) .nil
 exact .ifs (x:=⟨11,[],[],fE1,[],0,0,0,2⟩) (y:=[]) (z:=[]) rfl rfl rfl .nil .nil h2
theorem fS1_r:rightS fS1=true:=(rightS_iff _).2 ⟨by decide,fS1_fits,1,by decide,fS1_rd⟩
theorem fS5_r:rightS fS5=true:=(rightS_iff _).2 ⟨by decide,fS5_fits,1,by decide,fS5_rd⟩
theorem fS1_d:depthS fS1=1:=depthS_of fS1_r fS1_rd
theorem fS1_t:rightS (fS1.drop 1)=false:=by
 unfold rightS
 have h:deepF (fS1.drop 1).length false (fS1.drop 1) = -1:=by kernel_rfl
 rw [h]
 simp
theorem fS5_s:showS fS5 = [105,102,32,114,32,123,10,125,10,115,116,111,114,101,32,97,32,61,32,114,32,43,32,49,59,10]:=by
 unfold showS
 rw [if_pos fS5_r]
 simp [fS5, linesF, lineS, pieS, sepS, partS, wordS, wordL, lettS, hasS, hasL, tOpen, tShut, tEnd, fE1_s, fE2_s]
theorem fS_same:sameS false fS1 fS1=true:=by kernel_rfl
theorem fS_not:sameS false fS1 fS5=false:=by kernel_rfl
end Go.Proofs.YtaoeaaebafcegaaGreatDoor
