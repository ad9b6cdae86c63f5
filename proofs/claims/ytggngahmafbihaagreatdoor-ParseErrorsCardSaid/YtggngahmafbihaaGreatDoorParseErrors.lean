/-
  PROVED: for every two numbers, ParseErrors returns true: words that do not go on are told on their line.
  CONDITIONS: none besides the given statement's own.
-/
import Derived.Test.YtggngahmafbihaaGreatDoorPerBU
import Derived.Test.YtggngahmafbihaaGreatDoorPerAJ
set_option linter.unusedVariables false
set_option linter.unusedSimpArgs false
set_option maxRecDepth 1000000
namespace Go.Proofs.YtggngahmafbihaaGreatDoor
open Go.RowKit Go.Lib
section
open Go.ChangeShapes Go.WideShapes Go.ChangeAt
open Go.ChangeMaps (open_string shut_string)
theorem qeM{W:World}(h:laidMetH Tryz.prog Rows.parseErrorsRow.laid W)(hs:W.ShapedOpen Tryz.prog):(∃ea,SeesAt W ea)∧StrcAt W∧xI W:=by
 rw[MakeChecks.laidMetH_plain _ _ _ (by kernel_rfl)]at h;have hr:=qe3 hs;obtain⟨a4,h4⟩:=K9 22 h.tail.tail.tail (by kernel_rfl) (by kernel_rfl);obtain⟨a3,h3⟩:=K9 21 h.tail.tail.tail.tail (by kernel_rfl) (by kernel_rfl);have c:TabIs Tryz.prog W "internal/strconv.uint64pow10" .u64 pow10Tab:=tabIs_of_head (g:=20) (by kernel_rfl) (by kernel_rfl) Tryz.underlying239 Tryz.underlying154 (by kernel_rfl) (by kernel_rfl) h.tail.tail;have b:xI W:=tabIs_of_head (g:=17) (by kernel_rfl) (by kernel_rfl) Tryz.underlying198 Tryz.underlying5 (by kernel_rfl) (by kernel_rfl) h.tail.tail.tail.tail.tail.tail.tail.tail.tail.tail.tail.tail.tail.tail.tail.tail.tail.tail.tail.tail.tail.tail.tail
 have a:=qe7 [("inglenook/api.ErrEnd",Rows.laid_inglenook_api_ErrEnd,4),("inglenook/api.ErrSum",Rows.laid_inglenook_api_ErrSum,5),("inglenook/api.ErrShape",Rows.laid_inglenook_api_ErrShape,6),("inglenook/api.ErrMany",Rows.laid_inglenook_api_ErrMany,0),("inglenook/api.ErrRange",Rows.laid_inglenook_api_ErrRange,3),("inglenook/api.ErrName",Rows.laid_inglenook_api_ErrName,7),("inglenook/api.ErrNone",Rows.laid_inglenook_api_ErrNone,8),("inglenook/api.ErrThere",Rows.laid_inglenook_api_ErrThere,9),("inglenook/api.ErrFull",Rows.laid_inglenook_api_ErrFull,10),("inglenook/api.ErrCrash",Rows.laid_inglenook_api_ErrCrash,11),("inglenook/api.ErrSyntax",Rows.laid_inglenook_api_ErrSyntax,1),("inglenook/api.ErrDeep",Rows.laid_inglenook_api_ErrDeep,2),("inglenook/api.ErrTicks",Rows.laid_inglenook_api_ErrTicks,12),("inglenook/api.ErrWaits",Rows.laid_inglenook_api_ErrWaits,13),("inglenook/api.ErrClosed",Rows.laid_inglenook_api_ErrClosed,14),("inglenook/api.ErrWord",Rows.laid_inglenook_api_ErrWord,15),("inglenook/api.ErrNumber",Rows.laid_inglenook_api_ErrNumber,16)] [("unicode.White_Space",Rows.laid_unicode_White_Space),("strings.asciiSpace",Rows.laid_strings_asciiSpace)] h.tail.tail.tail.tail.tail rfl (by
  intro x hx;simp only[List.mem_cons,List.not_mem_nil,or_false]at hx
  rcases hx with rfl|rfl|rfl|rfl|rfl|rfl|rfl|rfl|rfl|rfl|rfl|rfl|rfl|rfl|rfl|rfl|rfl<;>exact⟨⟨_,rfl⟩,by kernel_rfl,by kernel_rfl⟩) hr
 exact⟨a,⟨⟨_,_,h3⟩,⟨_,_,h4⟩,c,hr⟩,b⟩
theorem qeL(os:Os)(args:Array Value):laidMetH Tryz.prog Rows.parseErrorsRow.laid ((World.laidAll Tryz.prog os Rows.parseErrorsRow.laid).forCall (fun _ _=>0) ⟨#[],args,[]⟩).memory:=by
 rw[MakeChecks.laidMetH_plain _ _ _ (by kernel_rfl)];exact laidMet_laidAll _ (by kernel_rfl) (by kernel_rfl)
theorem qbB(os:Os)(c:os.Started)(H:Type)(enc:TypeId×Value→H):
 ReturnsInHanded {} Tryz.checked os 5 .any (fun w args=>(Rows.parseErrorsSpec.pre enc Tryz.prog Tryz.f5 [] false w args∧laidMetH Tryz.prog Rows.parseErrorsRow.laid w)∧sizedMet enc Tryz.prog Tryz.f5 (OpenSpec.ofChange Rows.parseErrorsSpec) false w args)
  (Rows.parseErrorsSpec.post enc Tryz.prog Tryz.f5 false true false false):=by
 refine Zs (C:=Tryz.checked) (X:=fun w _=>laidMetH Tryz.prog Rows.parseErrorsRow.laid w) (fun _ _ _ I h=>h.of_heap I) qcC c (by kernel_rfl) Tryz.func5
  (ChangeSpec.witness_shaped (enc:=enc) (C:=Tryz.checked) (os:=os) (X:=fun w _=>laidMetH Tryz.prog Rows.parseErrorsRow.laid w) false (World.laidAll Tryz.prog os Rows.parseErrorsRow.laid) #[.int .i64 0,.int .i64 0] 8 (World.laidAll_os _ _ _) (World.shaped_of_ZipB (by kernel_rfl) (by kernel_rfl)) (by kernel_rfl) (by kernel_rfl) (by kernel_rfl) (qeL os _)) ?_
 intro W d args y Q k b r K B D;have a: ∀(j:Nat) t v,Tryz.f5.params[j]?=some t→args[j]?=some v→Value.okWide Tryz.prog W .any d t v:=b;have hW':=r;obtain⟨p,q,f,E,rfl,G,J⟩:=r;have hA:DataW.TrodAll enc Tryz.prog W 0 (fun _=>true) true Tryz.f5.params.toList args.toList y p:=f;rw[Tryz.params5]at hA a;obtain⟨v0,N,P,z,R,T,l,rfl,rfl,h0,L⟩:=trodAll_cons hA;obtain⟨s,O,d1,A,S,U,rfl,rfl,rfl,h1,M⟩:=trodAll_cons L;obtain⟨rfl,rfl,rfl⟩:=trodAll_nil M;obtain rfl:args= #[v0,s]:=by cases args;simp_all
 obtain⟨rfl,rfl⟩:=trodVars_none E;obtain⟨x,rfl,rfl,rfl,w0⟩:=open_int Tryz.underlying3 (a 0 3 v0 rfl rfl) h0;have g:=JO w0;obtain⟨a1,rfl,rfl,rfl,u⟩:=open_int Tryz.underlying3 (a 1 3 s rfl rfl) h1;have i:=JO u;clear f b;simp only[List.append_nil]at hW';obtain⟨⟨ea,m⟩,o,n⟩:=qeM B D;refine(Xa x a1 ea W g.1 g.2 i.1 i.2 m o n).mono fun e W' ⟨F,hb⟩=> ?_;subst F;exact⟨_,rfl,_,_,_,[],[],[],hW',(trodAll_cons_mk (shut_bool Tryz.underlying4 _) trodAll_mk0),(trodAll_cons_mk (shut_int Tryz.underlying3 w0) (trodAll_cons_mk (shut_int Tryz.underlying3 u) trodAll_mk0)),rfl,hb.frame _,fun h=>by cases h⟩
theorem qZ{a b:Bool}(ha:a=true)(hb:b=true):(a && b)=true:=by rw[ha,hb];rfl
theorem qg0:(Rows.parseErrorsRow.wf (OpenSpec.ofChange Rows.parseErrorsSpec))=true:=by kernel_rfl
theorem qg1:(laidOutB Tryz.prog)=true:=by kernel_rfl
theorem qg2:(mapsRowed Tryz.prog)=true:=by kernel_rfl
theorem qg3:(Tryz.f5.params.all (Tryz.prog.readableRec ·))=true:=by kernel_rfl
theorem qg4:(namedTie Tryz.prog Rows.parseErrorsRow.named Rows.parseErrorsSpec.vars)=true:=by kernel_rfl
theorem qg5:((Rows.parseErrorsRow.stops== []))=true:=by kernel_rfl
theorem qg6:((Tryz.prog.stops== []))=true:=by kernel_rfl
theorem qg7:((Rows.parseErrorsRow.knobs== []))=true:=by kernel_rfl
theorem qg8:((Tryz.prog.stopKnobs== []))=true:=by kernel_rfl
theorem qg9:((Rows.parseErrorsRow.inPlace==Tryz.prog.inPlace 5))=true:=by kernel_rfl
theorem qf7:((Rows.parseErrorsRow.unfollowed==Tryz.prog.unfollowed 5))=true:=by kernel_rfl
theorem qf8:((Rows.parseErrorsRow.recurses==Tryz.prog.recurses 5))=true:=by kernel_rfl
theorem qf9:((Rows.parseErrorsRow.named==Tryz.prog.varsNamed 5))=true:=by kernel_rfl
theorem qga:((Rows.parseErrorsRow.maps==(Tryz.f5.params.toList++Rows.parseErrorsSpec.plain.varTypes Tryz.prog).any (Tryz.prog.mapsRec ·)))=true:=by kernel_rfl
theorem qgb:((Rows.parseErrorsRow.ifaces==(Tryz.f5.params.toList++Rows.parseErrorsSpec.plain.varTypes Tryz.prog).any (Tryz.prog.ifacesRec ·)))=true:=by kernel_rfl
theorem qgc:((Rows.parseErrorsRow.mapsOut==Tryz.prog.mapsAmong Tryz.f5.resultTypes.toList))=true:=by kernel_rfl
theorem qgd:((Rows.parseErrorsRow.loops==(Tryz.f5.params.toList++Rows.parseErrorsSpec.plain.varTypes Tryz.prog).any (Tryz.prog.loopsFrom ·)))=true:=by kernel_rfl
theorem qge:((Rows.parseErrorsRow.wideKeys==(Tryz.f5.params.toList++Rows.parseErrorsSpec.plain.varTypes Tryz.prog++Tryz.f5.resultTypes.toList).any (Tryz.prog.wideKeysFrom ·)))=true:=by kernel_rfl
theorem qgf:(Rows.parseErrorsSpec.vars.all (Tryz.prog.varReadable ·))=true:=by kernel_rfl
theorem qgg:(Tryz.f5.resultTypes.all (fun t=>Tryz.prog.readableRec t && decide (t<Tryz.prog.types.size)))=true:=by kernel_rfl
theorem qgh:((Rows.parseErrorsRow.ifacesOut==Tryz.f5.resultTypes.toList.any (Tryz.prog.ifacesRec ·)))=true:=by kernel_rfl
theorem qgi:((Rows.parseErrorsRow.loopsOut==Tryz.f5.resultTypes.toList.any (Tryz.prog.loopsFrom ·)))=true:=by kernel_rfl
theorem qgj:((Rows.parseErrorsRow.plainKeys==Tryz.prog.plainKeys))=true:=by kernel_rfl
theorem qgk:(Rows.parseErrorsRow.shortTexts.isNone)=true:=by kernel_rfl
theorem qgl:(Tryz.prog.stopsHeard)=true:=by kernel_rfl
theorem qgm:(Tryz.prog.mayEnter)=true:=by kernel_rfl
theorem qgn:((Rows.parseErrorsRow.lifted==Tryz.prog.liftsFinal))=true:=by kernel_rfl
theorem qgo:((Tryz.prog.make==some Rows.parseErrorsRow.make))=true:=by kernel_rfl
theorem qgp:((Rows.parseErrorsRow.kinds==(if Rows.parseErrorsRow.domain.isEmpty then []else Tryz.f5.params.toList.map fun t=>match Tryz.prog.underlying t with|some (.int k)=>some k|_=>none)))=true:=by kernel_rfl
theorem qgq:((Rows.parseErrorsRow.pinned==Rows.parseErrorsRow.pinnedBy))=true:=by kernel_rfl
theorem qgr:((Rows.parseErrorsRow.veiled==(Tryz.f5.params.toList++Rows.parseErrorsSpec.plain.varTypes Tryz.prog++Tryz.f5.resultTypes.toList).any (Tryz.prog.veiledRec ·)))=true:=by kernel_rfl
theorem qgs:(Rows.parseErrorsRow.veiledFits Tryz.prog Tryz.f5.params.toList (Tryz.f5.params.toList++Rows.parseErrorsSpec.plain.varTypes Tryz.prog++Tryz.f5.resultTypes.toList))=true:=by kernel_rfl
theorem qbA:joinedFacts Tryz.prog 5 Tryz.f5 Rows.parseErrorsSpec Rows.parseErrorsRow=true:=
 (qZ (qZ (qZ (qZ (qZ (qZ (qZ (qZ (qZ (qZ (qZ (qZ (qZ (qZ (qZ (qZ (qZ (qZ (qZ (qZ (qZ (qZ (qZ (qZ (qZ (qZ (qZ (qZ (qZ (qZ (qZ qg0 qg1) qg2) qg3) qg4) qg5) qg6) qg7) qg8) qg9) qf7) qf8) qf9) qga) qgb) qgc) qgd) qge) qgf) qgg) qgh) qgi) qgj) qgk) qgl) qgm) qgn) qgo) qgp) qgq) qgr) qgs)
theorem Zt:Rows.ParseErrorsSaid:=
 OpenClaim.holds_of_wide 5 Tryz.f5 rfl rfl rfl rfl rfl rfl rfl ⟨rfl,rfl,rfl,rfl,rfl⟩ rfl rfl rfl rfl rfl (by kernel_rfl) Tryz.func5 qbA
  (of_decide_eq_true (by kernel_rfl)) (by unfold Func.isWrapper;first|(rw[if_pos (by decide+kernel)];kernel_rfl)|(rw[if_neg (by decide+kernel)];exact⟨rfl,rfl⟩))
  (fun os a H enc _=>qbB os a H enc)
theorem parseErrors_card:Rows.ParseErrorsCardSaid:=
 Claim7.holds_tied_plain_at .later [] [.data,.data,.data,.sentinel,.sentinel,.sentinel,.sentinel,.sentinel,.sentinel,.sentinel,.sentinel,.sentinel,.sentinel,.sentinel,.sentinel,.sentinel,.sentinel,.sentinel,.sentinel,.sentinel,.sentinel,.sentinel,.listed,.data] true (true, "c8e62360d47d7afd119768a611c6b712e518a7c24e95d6348909ad830ce57ed9") true
  Zt (fun _ h=>by cases h) (by kernel_rfl) (fun _ h=>by cases h) parseErrors_row_tie rfl ⟨rfl,rfl⟩ (by kernel_rfl) rfl
  (fun f c hf b=>by
   obtain rfl:f=5:=Option.some.inj ((show Tryz.prog.funcNamed "inglenook/inglenooklaw9.ParseErrors" =some 5 by kernel_rfl).symm.trans hf)|>.symm
   obtain rfl:c=Tryz.f5:=(Option.some.inj (Tryz.func5.symm.trans b)).symm
   exact⟨by kernel_rfl,fun j t a=>by
    rw[Tryz.params5]at a
    have h3:t=3∨t=3:=by
     rcases j with _|_|j
     ·left;simpa using a.symm
     ·right;simpa using a.symm
     ·simp at a
    rcases h3 with rfl|rfl
    ·exact(show Tryz.prog.wantsStandIn 3=false by kernel_rfl)
    ·exact(show Tryz.prog.wantsStandIn 3=false by kernel_rfl)
    ⟩)
  (by kernel_rfl)
#print axioms parseErrors_card
end
end Go.Proofs.YtggngahmafbihaaGreatDoor
