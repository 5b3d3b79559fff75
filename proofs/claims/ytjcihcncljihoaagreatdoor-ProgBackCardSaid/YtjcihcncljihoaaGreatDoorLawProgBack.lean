/- The law ProgBack: its card. The walk is joined to the row: every input, no condition. -/
import Derived.Test.YtjcihcncljihoaaGreatDoorPb31
import Derived.Test.YtjcihcncljihoaaGreatDoorCards
import Derived.Test.YtjcihcncljihoaaGreatDoorTie
import Derived.Test.YtjcihcncljihoaaGreatDoorChecked
import Derived.Carry
import Derived.ChangeOld
import Derived.Deep.DeepWitnessRowRef
import Derived.Lay
import Derived.ShutString
namespace Go.Proofs.YtjcihcncljihoaaGreatDoor.progBackDone
open Go.ChangeShapes Go.WideShapes Go.ChangeAt Go.RowKit
open Go.ChangeMaps (open_string shut_string)
set_option linter.unusedVariables false
theorem env{W:World}(h:laidMetH Tryz.prog Rows.progBackRow.laid W)(A:W.ShapedOpen Tryz.prog):Xj W:=gC _ h A Vf Vf
set_option maxRecDepth 100000 in
theorem contract(H:Type)(enc:TypeId × Value→H)(W:World)(G:Nat)(args:Array Value)(ds gs:List (DataW H))(A:List MemPlace)(E:∀ (j:Nat) t v,Tryz.f5.params[j]? = some t→args[j]? = some v→Value.okWide Tryz.prog W .any G t v)(Q:DataW.Whole enc Tryz.prog Tryz.f5.params.toList Rows.progBackSpec.vars false W args.toList ds gs A)(hL:laidMetH Tryz.prog Rows.progBackRow.laid W)(hS:W.ShapedOpen Tryz.prog):Calls Tryz.prog 5 args W fun e W'=>∃ v,e = .returned v∧Rows.progBackSpec.post enc Tryz.prog Tryz.f5 false true false false W args v W':=by
 have J:=Q;obtain⟨p,q,I,hV,rfl,af,al⟩:=Q;have O:DataW.TrodAll enc Tryz.prog W 0 (fun _=>true) true Tryz.f5.params.toList args.toList ds p:=I;rw[Tryz.params5]at O E;obtain⟨Y,ao,d0,ad,p0,q0,M,rfl,rfl,h0,r0⟩:=trodAll_cons O;obtain⟨rfl,rfl,rfl⟩:=trodAll_nil r0;obtain rfl:args = #[Y]:=by cases args;simp_all
 obtain⟨rfl,rfl⟩:=trodVars_none hV;obtain⟨x0,rfl,rfl,rfl,Z⟩:=open_string Tryz.underlying9 (E 0 9 Y rfl rfl) h0;clear I;simp only[List.append_nil]at J;have hE:=env hL hS;refine(tD x0 Z W hE).mono fun e W' hy=>?_;obtain⟨he,L⟩:=hy;subst he;exact⟨_,rfl,_,_,_,[],_,[],J,trodAll_mk1 (shut_bool Tryz.underlying4 _),(trodAll_cons_mk (shut_string Tryz.underlying9 Z) trodAll_mk0),rfl,L.frame _,fun h=>by cases h⟩
theorem laid_met(os:Os):laidMetH Tryz.prog Rows.progBackRow.laid ((World.laidAll Tryz.prog os Rows.progBackRow.laid).forCall (fun _ _=>0) ⟨#[],#[.string .empty],[]⟩).memory :=
 by rw[MakeChecks.laidMetH_plain _ _ _ Vf];exact laidMet_laidAll _ Vf Vf
theorem reads(os:Os){H:Type}(enc:TypeId × Value→H):∃ A,DataW.whole enc Tryz.prog ((World.laidAll Tryz.prog os Rows.progBackRow.laid).forCall (fun _ _=>0) ⟨#[],#[.string .empty],[]⟩).memory Tryz.f5.params.toList Rows.progBackSpec.vars false (#[Value.string .empty]).toList 8=some ([.lit (.string [])],[],A) :=
 ⟨[],by kernel_rfl⟩
set_option maxRecDepth 100000 in
theorem lifted(os:Os)(A:os.Started)(H:Type)(enc:TypeId × Value→H)(F:Stop.Interp):ReturnsInHanded {} Tryz.checked os 5 .any ((OpenSpec.ofChange Rows.progBackSpec).preRow enc Tryz.prog Tryz.f5 Rows.progBackRow.domain false Rows.progBackRow.laid) (((OpenSpec.ofChange Rows.progBackSpec).at F).post enc Tryz.prog Tryz.f5 false true false false):=by
 obtain⟨J,Z⟩:=reads os enc;refine returnsInHanded_of_row (C:=Tryz.checked) (s:=OpenSpec.ofChange Rows.progBackSpec) own A Vf Tryz.func5
  (witness_row_atRef (enc:=enc) (C:=Tryz.checked) false (World.laidAll Tryz.prog os Rows.progBackRow.laid) #[.string .empty] (World.laidAll_os _ _ _) Vf Vf Vf
   (OpenSpec.preRow_of_cond 8 Z Vf (fun k Y=>by cases Y) Vf (laid_met os))) ?_
 intro W G args ds L E I Q _ _ _ M O _;exact contract H enc W G args ds L E I Q M O
theorem said:Rows.ProgBackSaid :=
 OpenClaim.holds_of_cond 5 Tryz.f5 rfl rfl rfl rfl rfl rfl rfl ⟨rfl,rfl,rfl,rfl,rfl⟩ rfl rfl rfl rfl rfl Vf Tryz.func5 Vf
  (of_decide_eq_true Vf) (by unfold Func.isWrapper;first|(rw[if_pos (by decide +kernel)];kernel_rfl)|(rw[if_neg (by decide +kernel)];exact⟨rfl,rfl⟩))
  (fun os A H enc _ F=>by rw[OpenClaim.pre_eq_preRow];exact lifted os A H enc F)
theorem plain (f : FuncId) (fn : Func) (G : Tryz.pinned.checked.prog.funcNamed "leadline/leadlinelaw05.ProgBack" = some f) (E : Tryz.pinned.checked.prog.funcs[f]? = some fn) : true = Tryz.pinned.checked.prog.looks [] ∧ ∀ (j : Nat) t, fn.params[j]? = some t → Tryz.pinned.checked.prog.wantsStandIn t = false := by
 obtain rfl : f = 5 := Option.some.inj ((show Tryz.prog.funcNamed "leadline/leadlinelaw05.ProgBack" = some 5 by kernel_rfl).symm.trans G) |>.symm;obtain rfl : fn = Tryz.f5 := (Option.some.inj (Tryz.func5.symm.trans E)).symm;refine ⟨by kernel_rfl, fun j t ht => ?_⟩;rw [Tryz.params5] at ht;have hm : t ∈ [9] := by simpa using Array.mem_of_getElem? ht
 have A:([9].all fun u=>!Tryz.prog.wantsStandIn u)=true:=by kernel_rfl
 exact(show Tryz.prog.wantsStandIn t=false by simpa using List.all_eq_true.1 A t hm)
theorem card:Rows.ProgBackCardSaid :=
 Claim7.holds_tied_plain_at .later [] _ _ _ _ said (fun _ h=>by cases h) Vf (fun _ h=>by cases h) progBack_row_tie rfl ⟨rfl,rfl⟩ Vf rfl plain Vf
#print axioms card
end Go.Proofs.YtjcihcncljihoaaGreatDoor.progBackDone
