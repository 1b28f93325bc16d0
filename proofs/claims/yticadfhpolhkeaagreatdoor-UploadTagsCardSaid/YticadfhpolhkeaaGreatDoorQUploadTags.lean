/-
  Whatever questions and prefix come in, stemmalaw20.UploadTags answers true and changes nothing that was there.
-/
import Derived.Test.YticadfhpolhkeaaGreatDoorQ28
import Derived.Test.YticadfhpolhkeaaGreatDoorCards
import Derived.Test.YticadfhpolhkeaaGreatDoorTie
import Derived.ProofKit
import Derived.ChangeMaps5
import Derived.Lay
import Derived.LaidOnce
import Derived.LaidLaws
import Derived.SevenTiedAt
import Derived.HandedShaped
set_option maxHeartbeats 16000000
set_option maxRecDepth 100000
set_option linter.unusedVariables false
set_option linter.unusedSimpArgs false
namespace Go.Proofs.YticadfhpolhkeaaGreatDoor
namespace uploadTags
open Go Go.RowKit Go.ChangeShapes Go.WideShapes lib bm pk lo sf
theorem qt3 {H:Type} {enc:TypeId×Value->H} {a:Assume} {C:Checked} {os:Os} {f:FuncId} {fn:Func} {s:ChangeSpec} {conds:List PathCond} {apart fresh handsOn again:Bool} {X:World->Array Value->Prop}
  (hX:∀(w w':World) (args:AV),w.heap=w'.heap->X w args->X w' args)
  (own:ownKnob C.prog.godebug=none) (started:os.Started) (Fa:C.prog.inits.idxOf? f=none) (AZ:C.prog.funcs[f]?=some fn)
  (witness:∃(w:World) (tape:Tape) (i:Input),w.os=os/\(w.forCall tape i).Shaped C.prog/\i.vars=[]/\Input.okWide C.prog (w.forCall tape i) .any w.heap.size f i/\
   ((s.pre enc C.prog fn conds apart (w.forCall tape i).memory i.args/\X (w.forCall tape i).memory i.args)/\sizedMet enc C.prog fn (OpenSpec.ofChange s) apart (w.forCall tape i).memory i.args)/\a.holds C.prog (lone (Frame.enter C.prog f i.args .normal) [] (w.forCall tape i)))
  (contract:∀(W:World) (base:Nat) (args:AV) (ds gs:List (DataW H)) (before:List MemPlace),
   (∀(j:Nat) t v,fn.params[j]?=some t->args[j]?=some v->Value.okWide C.prog W .any base t v)->
   DataW.Whole enc C.prog fn.params.toList s.vars apart W args.toList ds gs before->
   conds.all (PathCond.test C.prog ⟨fn.params.toList,ds,s.plain.varTypes C.prog,gs⟩)=true->
   (DataW.weightsEach C.prog (fn.params.toList++s.plain.varTypes C.prog) (ds++gs)).all (·<=reachBytes)=true->X W args->W.ShapedOpen C.prog->
   a.holds C.prog (lone (Frame.enter C.prog f args .normal) [] W)->
   Calls C.prog f args W λe W'=>∃v,e = .returned v/\s.post enc C.prog fn apart fresh handsOn again W args v W') :
  ReturnsInHanded a C os f .any (λw args=>(s.pre enc C.prog fn conds apart w args/\X w args)/\sizedMet enc C.prog fn (OpenSpec.ofChange s) apart w args) (s.post enc C.prog fn apart fresh handsOn again):=by
 refine returnsInHanded_of_calls own started Fa witness ?_;intro w tape i _ uQ _ iq Vb F9;obtain⟨_,_,_,fn',VC,_,_,_,_,hval⟩:=iq;have e:fn'=fn:=ig (VC.symm.trans AZ);subst e;obtain⟨⟨⟨ds,gs,before,hw,hc⟩,hx⟩,hz⟩:=Vb;have hw':=DataW.Whole.of_heap (w':=w.forCall tape i) (by rfl) hw;refine (contract (w.forCall tape i) w.heap.size i.args ds gs before hval hw' hc (hz.weights hw) (hX _ _ _ (by rfl) hx) uQ F9).mono λe W' ⟨v,he,hp⟩=>?_
 subst he;exact ChangeSpec.post_blind hp
theorem qw6 {W:World} (h:laidMetH Tryz.prog Rows.uploadTagsRow.laid W):obj.Pw W:=by
 rw[MakeChecks.laidMetH_plain _ _ _ (by kernel_rfl)]at h;obtain⟨ps,⟨g1,t1,Ww,f1,p1,q1,_,_,_,_,⟨g2,t2,cs2,f2,p2,q2,_,_,_,_,⟨g',t',cs,fuel,p,q,wm,ht',UQ,hd,_,_⟩,_⟩,_⟩,_⟩:=h;have hg:Tryz.prog.globalNamed "internal/strconv.uint64pow10" = some 3:=by kernel_rfl
 have hty:(Tryz.prog.globals[3]?).map (·.type)=some 384:=by kernel_rfl
 obtain rfl:=ig (hg.symm.trans wm);obtain rfl:=ig (hty.symm.trans ht');have hu:Tryz.prog.underlying 384=some (.array 20 204):=by kernel_rfl
 have Nc:DataW.trod (λ_=>()) Tryz.prog W 0 (λ_=>true) false fuel 384 cs.toList=some (Lib.tabData .u64 Lib.pow10Tab,p):=hd;unfold obj.Pw Lib.TabIs;rw[UQ,<-Lib.cells_of_tab hu Tryz.underlying204 (by kernel_rfl) (by kernel_rfl) Nc]
theorem zd9 (W:World) (h:W.ShapedOpen Tryz.prog):∃m,W.cell? ⟨2,0,none⟩=some (.int .i64 m):=Go.Proofs.cell_of_shapedOpen_int (zero:=#[.int .i64 0]) (t:=3) h (of_decide_eq_true (by kernel_rfl)) (by kernel_rfl) rfl (by kernel_rfl) (by kernel_rfl) Tryz.underlying3
theorem walk {H:Type} {enc:TypeId×Value->H} (W:World) {base:Nat} (v0:Value) (d0:DataW H) (p0:List MemPlace) (v1:Value) (d1:DataW H) (p1:List MemPlace) (v2:Value) (d2:DataW H) (p2:List MemPlace)
  (o0:Value.okWide Tryz.prog W .any base 4 v0) (h0:DataW.Trod enc Tryz.prog W 0 (λ_=>true) true 4 v0 d0 p0)
  (o1:Value.okWide Tryz.prog W .any base 4 v1) (h1:DataW.Trod enc Tryz.prog W 0 (λ_=>true) true 4 v1 d1 p1)
  (o2:Value.okWide Tryz.prog W .any base 9 v2) (h2:DataW.Trod enc Tryz.prog W 0 (λ_=>true) true 9 v2 d2 p2)
  (hz:(DataW.weightsEach Tryz.prog [4,4,9] [d0,d1,d2]).all (·<=reachBytes)=true) (hL:laidMetH Tryz.prog Rows.uploadTagsRow.laid W) (m:Int) (hm:W.cell? ⟨2,0,none⟩=some (.int .i64 m)) :
  Calls Tryz.prog 3 #[v0,v1,v2] W λe W'=>e = .returned (.bool true)/\Below W.heap.size W W':=by
 obtain⟨x0,rfl,rfl,rfl⟩:=open_bool Tryz.underlying4 o0 h0;obtain⟨x1,rfl,rfl,rfl⟩:=open_bool Tryz.underlying4 o1 h1;obtain⟨x2,rfl,rfl,rfl,wx2⟩:=Go.ChangeMaps.open_string Tryz.underlying9 o2 h2;exact (ob.qo2 x0 x1 x2 (by unfold maxLen at wx2;omega) m W hm (qw6 hL)).mono λe W2 h=>⟨h.1,Ub h.2⟩
theorem own:ownKnob Tryz.prog.godebug=none:=by kernel_rfl
theorem lifted (os:Os) (started:os.Started) (H:Type) (enc:TypeId×Value->H) :
  ReturnsInHanded {} Tryz.checked os 3 .any (λw args=>(Rows.uploadTagsSpec.pre enc Tryz.prog Tryz.f3 [] false w args/\laidMetH Tryz.prog Rows.uploadTagsRow.laid w)/\sizedMet enc Tryz.prog Tryz.f3 (OpenSpec.ofChange Rows.uploadTagsSpec) false w args) (Rows.uploadTagsSpec.post enc Tryz.prog Tryz.f3 false true false false):=by
 refine qt3 (C:=Tryz.checked) (X:=λw _=>laidMetH Tryz.prog Rows.uploadTagsRow.laid w) (λ_ _ _ hh h=>h.of_heap hh) own started (by kernel_rfl) Tryz.func3
  (ChangeSpec.witness_shaped (enc:=enc) (C:=Tryz.checked) (os:=os) (X:=λw _=>laidMetH Tryz.prog Rows.uploadTagsRow.laid w) false (World.laidAll Tryz.prog os Rows.uploadTagsRow.laid) #[.bool false,.bool false,.string ⟨#[]⟩] 8 (World.laidAll_os _ _ _)
   (World.shaped_of_ZipB (w2 os) (w3 os)) (w4 os) (w5 os enc) (w6 os enc)
   (by rw[MakeChecks.laidMetH_plain _ _ _ (by kernel_rfl)];exact laidMet_laidAll _ (w8 os) (w9 os))) ?_
 intro W base args ds gs before hval hW _ cZ hL uQ _;obtain⟨m,hm⟩:=zd9 W uQ;have QR:=hW;obtain⟨p,q,V8,hV,rfl,qU,wg⟩:=QR;have hA:DataW.TrodAll enc Tryz.prog W 0 (λ_=>true) true Tryz.f3.params.toList args.toList ds p:=V8;rw[Tryz.params3]at hA hval;obtain⟨v0,vs0,d0,ds0,p0,q0,zaG,rfl,rfl,h0,r0⟩:=trodAll_cons hA;obtain⟨v1,vs1,d1,ds1,p1,q1,rfl,rfl,rfl,h1,r1⟩:=trodAll_cons r0;obtain⟨v2,vs2,d2,ds2,p2,q2,rfl,rfl,rfl,h2,r2⟩:=trodAll_cons r1;obtain⟨rfl,rfl,rfl⟩:=trodAll_nil r2;obtain rfl:args=#[v0,v1,v2]:=by cases args;simp_all
 obtain⟨rfl,rfl⟩:=trodVars_none hV;have hz:(DataW.weightsEach Tryz.prog [4,4,9] [d0,d1,d2]).all (·<=reachBytes)=true:=cZ;refine qrj (s:=Rows.uploadTagsSpec) a2 sf.p1 rfl rfl Tryz.underlying4 hW (λgs _ h2=>by subst h2;rfl) ?_;exact walk W v0 d0 p0 v1 d1 p1 v2 d2 p2 (hval 0 4 v0 rfl rfl) (h0) (hval 1 4 v1 rfl rfl) (h1) (hval 2 9 v2 rfl rfl) (h2) hz hL m hm
theorem over:Rows.uploadTagsRow.holds Tryz.pinned (OpenSpec.ofChange Rows.uploadTagsSpec):=
 OpenClaim.holds_of_wide 3 Tryz.f3 rfl rfl rfl rfl rfl rfl rfl ⟨rfl,rfl,rfl,rfl,rfl⟩ rfl rfl rfl rfl rfl (by kernel_rfl) Tryz.func3 joined
  (of_decide_eq_true (by kernel_rfl)) (by unfold Func.isWrapper;first|(rw[if_pos (by decide +kernel)];kernel_rfl)|(rw[if_neg (by decide +kernel)];exact⟨rfl,rfl⟩))
  (λos started H enc _=>lifted os started H enc)
theorem proved:Rows.UploadTagsCardSaid:=
 Claim7.holds_tied_plain_at .later [] [.data,.data,.data,.data,.pinned] true (true, "9de46ef051501116cc4a1e6b0f3b295ff189cce8f0dd5de4c9c04ea3d9fce340") true
  over (λ_ h=>by cases h) (by kernel_rfl) (λ_ h=>by cases h) uploadTags_row_tie rfl ⟨rfl,rfl⟩ (by kernel_rfl) rfl
  (λf fn hf AZ=>by
   obtain rfl:f=3:=ig ((show Tryz.prog.funcNamed "stemma/stemmalaw20.UploadTags" = some 3 by kernel_rfl).symm.trans hf) |>.symm
   obtain rfl:fn=Tryz.f3:=(ig (Tryz.func3.symm.trans AZ)).symm
   exact⟨by kernel_rfl,λj t ht=>by
    rw[Tryz.params3]at ht
    have hm:t∈[4,4,9]:=by simpa using Array.mem_of_getElem? ht
    have ct:([4,4,9].all λu=>!Tryz.prog.wantsStandIn u)=true:=by kernel_rfl
    exact (show Tryz.prog.wantsStandIn t=false by simpa using ER.1 ct t hm)⟩)
  goes
end uploadTags
end Go.Proofs.YticadfhpolhkeaaGreatDoor
