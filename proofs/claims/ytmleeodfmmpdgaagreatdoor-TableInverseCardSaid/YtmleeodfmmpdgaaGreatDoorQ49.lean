/- TableInverse: Parse returns every valid table from its text, and printing a parsed table and parsing it again changes nothing. No condition besides. -/
import Derived.Test.YtmleeodfmmpdgaaGreatDoorQ48
set_option maxRecDepth 100000
set_option maxHeartbeats 8000000
namespace Go.Proofs.YtmleeodfmmpdgaaGreatDoor.lawTableInverse
open Go.ChangeShapes Go.WideShapes Go.ChangeAt Go.RowKit Go.Joins
open Go.ChangeMaps (open_string shut_string)
open _root_.Go.Proofs.Tryz
theorem lifted (os:Os)(started:os.Started)(H:Type)(enc:TypeId×Value→H):
  ReturnsInHanded {} Tryz.checked os 5 .any (fun w args=>(Rows.tableInverseSpec.pre enc prog Tryz.f5 Rows.tableInverseRow.domain false w args∧laidMetH prog Rows.tableInverseRow.laid w)∧sizedMet enc prog Tryz.f5 (OpenSpec.ofChange Rows.tableInverseSpec) false w args)
   (Rows.tableInverseSpec.post enc prog Tryz.f5 false true false false):=by
 refine returnsInHanded_of_calls (C:=Tryz.checked) own started (by kernel_rfl)
  (ChangeSpec.witness_shaped (enc:=enc) (C:=Tryz.checked) (os:=os) (X:=fun w _=>laidMetH prog Rows.tableInverseRow.laid w) false (World.laidAll prog os Rows.tableInverseRow.laid) #[.agg #[.slice none 0 0,.slice none 0 0,.slice none 0 0],.string .empty] 8 (World.laidAll_os _ _ _)
   (World.shaped_of_ZipB (by kernel_rfl) (by kernel_rfl)) (by kernel_rfl) (by kernel_rfl) (by kernel_rfl)
   (by rw[MakeChecks.laidMetH_plain _ _ _ (by kernel_rfl)];exact laidMet_laidAll _ (by kernel_rfl) (by kernel_rfl))) ?_
 intro w tape i _ V3 _ B6 mD _;obtain⟨_,_,_,fn',bZ,_,_,_,_,S8⟩:=B6;obtain rfl:Tryz.f5=fn':=Option.some.inj (func5.symm.trans bZ);obtain⟨⟨⟨ds,gs,before,Mn,_⟩,hx⟩,hz⟩:=mD;have cC:=hz.weights Mn;have hW:=DataW.Whole.of_heap (w':=w.forCall tape i) (by rfl) Mn;have hL:laidMetH prog Rows.tableInverseRow.laid (w.forCall tape i):=laidMetH.of_heap (by rfl) hx
 suffices hcon:Calls prog 5 i.args (w.forCall tape i) fun e W'=>∃v,e= .returned v∧Rows.tableInverseSpec.post enc prog Tryz.f5 false true false false (w.forCall tape i) i.args v W' by
  refine hcon.mono fun e W' ⟨v,he,hp⟩=>?_;subst he;exact ChangeSpec.post_blind hp
 clear hx Mn hz bZ;generalize i.args=args at *;generalize w.forCall tape i=W at *;generalize w.heap.size=base at *;have V4:∀(j:Nat) t v,Tryz.f5.params[j]? =some t→args[j]? =some v→Value.okWide prog W .any base t v:=S8;have vF:=hW;obtain⟨p,q,Ek,hV,rfl,mF,tW⟩:=hW;have hA:DataW.TrodAll enc prog W 0 (fun _=>true) true Tryz.f5.params.toList args.toList ds p:=Ek;rw[params5]at hA V4;obtain⟨v0,vs0,d0,ds0,p0,q0,pR,rfl,rfl,h0,r0⟩:=trodAll_cons hA;obtain⟨v1,vs1,d1,ds1,p1,q1,rfl,rfl,rfl,h1,r1⟩:=trodAll_cons r0;obtain⟨rfl,rfl,rfl⟩:=trodAll_nil r1;obtain rfl:args= #[v0,v1]:=by cases args;simp_all
 obtain⟨rfl,rfl⟩:=trodVars_none hV;have k0:=h0;have lt0:∀x∈p0,x.block<W.heap.size:=by obtain⟨m,hm⟩:=k0;exact DataW.trod_lt m _ _ _ hm
 obtain⟨cs0,rfl,vG⟩:=okWide_struct underlying27 (V4 0 27 v0 rfl rfl);obtain⟨fuel0,Ej⟩:=h0;obtain⟨x0,t0,Xe,vH,Jv⟩:=Zz6 (Zu1 (by simpa [Value.cells]using Ej) cC 0 rfl rfl);obtain rfl:cs0= #[x0 0,x0 1,x0 2]:=Array.toList_inj.1 Xe;have k1:=h1;have lt1:∀x∈p1,x.block<W.heap.size:=by obtain⟨m,hm⟩:=k1;exact DataW.trod_lt m _ _ _ hm
 obtain⟨s1,rfl⟩:=okWide_string underlying9 (V4 1 9 v1 rfl rfl);obtain⟨fuel1,Gb⟩:=h1;obtain⟨r1,e1,Aw⟩:=Zln (Zu1 (by simpa [Value.cells]using Gb) cC 1 rfl rfl);injection e1 with e1;subst e1;clear Ek S8;refine(Zr6 x0 t0 s1 W vH Jv (by unfold reachBytes at Aw;omega) (Zun V3) (Zabo (by kernel_rfl) (.tail _ (.tail _ (.tail _ (.head _)))) (.tail _ (.tail _ (.tail _ (.tail _ (.tail _ (.tail _ (.head _))))))) hL) (Zw0 (by kernel_rfl) hL).2 (Zw0 (by kernel_rfl) hL).1).mono fun e W' ⟨he,bel⟩=>?_;subst he;exact⟨_,rfl,_,_,_,[],_,[],vF,trodAll_mk1 (shut_bool underlying4 _),(trodAll_cons_mk (Below.trod Zvr (by kernel_rfl) (of_decide_eq_true (by kernel_rfl)) k0 bel lt0) (trodAll_cons_mk (Below.trod Zvr (by kernel_rfl) (of_decide_eq_true (by kernel_rfl)) k1 bel lt1) trodAll_mk0)),rfl,bel.frame _,fun h=>by cases h⟩
theorem Zaji:joinedFacts prog 5 Tryz.f5 Rows.tableInverseSpec Rows.tableInverseRow=true:=by
 unfold joinedFacts;simp only[Bool.and_eq_true]
 repeat' apply And.intro
 all_goals as_aux_lemma=>kernel_rfl
theorem proved:Rows.TableInverseSaid:=
 OpenClaim.holds_of_wide 5 Tryz.f5 rfl rfl rfl rfl rfl rfl rfl ⟨rfl,rfl,rfl,rfl,rfl⟩ rfl rfl rfl rfl rfl (by as_aux_lemma=>kernel_rfl) func5 Zaji
  (of_decide_eq_true (by as_aux_lemma=>kernel_rfl)) (by unfold Func.isWrapper;first|(rw[if_pos (by decide+kernel)];kernel_rfl)|(rw[if_neg (by decide+kernel)];exact⟨rfl,rfl⟩))
  (fun os started H enc _=>lifted os started H enc)
theorem card:Rows.TableInverseCardSaid:=
 Claim7.holds_tied_plain_at .later [] [.data,.data,.data,.data,.sentinel,.sentinel,.pinned] true (true, "53866a3cfb6a5f7e0285feebabafe408afb9ebef8f183c7493c95fa9bfcd2b80") true proved (fun _ h=>by cases h) (by as_aux_lemma=>kernel_rfl) (fun _ h=>by cases h) tableInverse_row_tie rfl ⟨rfl,rfl⟩ (by as_aux_lemma=>kernel_rfl) rfl
  (fun f fn hf vI=>by
   obtain rfl:f=5:=Option.some.inj ((show prog.funcNamed "calque/calquelaw12.TableInverse" =some 5 by as_aux_lemma=>kernel_rfl).symm.trans hf)|>.symm;obtain rfl:fn=Tryz.f5:=(Option.some.inj (func5.symm.trans vI)).symm;exact⟨(by as_aux_lemma=>kernel_rfl),fun j t ht=>by
    rw[params5]at ht;have hm:t∈[27,9]:=by simpa using Array.mem_of_getElem? ht
    have Be:([27,9].all fun u=> !prog.wantsStandIn u)=true:=by as_aux_lemma=>kernel_rfl
    exact(show prog.wantsStandIn t=false by simpa using List.all_eq_true.1 Be t hm)⟩)
  (by as_aux_lemma=>kernel_rfl)
#print axioms card
end Go.Proofs.YtmleeodfmmpdgaaGreatDoor.lawTableInverse
