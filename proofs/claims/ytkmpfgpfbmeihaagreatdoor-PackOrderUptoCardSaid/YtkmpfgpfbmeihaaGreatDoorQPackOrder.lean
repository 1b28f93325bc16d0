/-
  Whatever objects and whatever numbers come in (of bulk at most 1048576), stemmalaw11.PackOrder answers true and changes nothing that was there.
-/
import Derived.Test.YtkmpfgpfbmeihaaGreatDoorQ28
import Derived.Test.YtkmpfgpfbmeihaaGreatDoorCards
import Derived.Test.YtkmpfgpfbmeihaaGreatDoorTie
import Derived.ProofKit
import Derived.Lay
import Derived.LaidOnce
import Derived.LaidLaws
import Derived.SevenTiedAt
import Derived.Deep.DeepHandedRow
set_option maxHeartbeats 16000000
set_option maxRecDepth 100000
set_option linter.unusedVariables false
set_option linter.unusedSimpArgs false
namespace Go.Proofs.YtkmpfgpfbmeihaaGreatDoor
namespace packOrder
open Go Go.RowKit Go.ChangeShapes Go.WideShapes lib bm pk
theorem qsw {H:Type} {enc:TypeId×Value->H} {C:Checked} {os:Os} {f:FuncId} {fn:Func} {s:OpenSpec} {conds:List PathCond} {apart:Bool} {laid:List (String×DataW Unit)} (modest:Bool) (w0:World) (args:AV) (TD:w0.os=os)
  (mA:(w0.forCall (λ_ _=>0) ⟨#[],args,[]⟩).Shaped C.prog)
  (jb:Input.okWideB C.prog (w0.forCall (λ_ _=>0) ⟨#[],args,[]⟩) f ⟨#[],args,[]⟩=true)
  (eF:s.preRow enc C.prog fn conds apart laid (w0.forCall (λ_ _=>0) ⟨#[],args,[]⟩).memory args) :
  ∃(w:World) (tape:Tape) (i:Input),w.os=os/\(w.forCall tape i).Shaped C.prog/\i.vars=[]/\Input.okWide C.prog (w.forCall tape i) .any w.heap.size f i/\
   s.preRow enc C.prog fn conds apart laid (w.forCall tape i).memory i.args/\({ modest:=modest }:Assume).holds C.prog (lone (Frame.enter C.prog f i.args .normal) [] (w.forCall tape i)):=
 ⟨w0,λ_ _=>0,⟨#[],args,[]⟩,TD,mA,(Input.okWide_of_okWideB (base:=0) jb).1,(Input.okWide_of_okWideB jb).2,eF,by
  simp only[Assume.holds]
  exact⟨by simp,by simp,λ_=>Modest.zero,by simp,by simp⟩⟩
theorem qwn {W:World} (h:laidMetH Tryz.prog Rows.packOrderUptoRow.laid W):obj.Pw W:=by
 rw[MakeChecks.laidMetH_plain _ _ _ (by kernel_rfl)]at h;obtain⟨ps,⟨g1,t1,cs1,f1,p1,q1,_,_,_,_,⟨g2,t2,Uz,f2,p2,q2,_,_,_,_,⟨g',t',cs,fuel,p,q,hg',LW,Ya,hd,_,_⟩,_⟩,_⟩,_⟩:=h;have hg:Tryz.prog.globalNamed "internal/strconv.uint64pow10" = some 1:=by kernel_rfl
 have hty:(Tryz.prog.globals[1]?).map (·.type)=some 316:=by kernel_rfl
 obtain rfl:=lA (hg.symm.trans hg');obtain rfl:=lA (hty.symm.trans LW);have hu:Tryz.prog.underlying 316=some (.array 20 104):=by kernel_rfl
 have tK:DataW.trod (λ_=>()) Tryz.prog W 0 (λ_=>true) false fuel 316 cs.toList=some (Lib.tabData .u64 Lib.pow10Tab,p):=hd;unfold obj.Pw Lib.TabIs;rw[Ya,<-Lib.cells_of_tab hu Tryz.underlying104 (by kernel_rfl) (by kernel_rfl) tK]
theorem walk {H:Type} {enc:TypeId×Value->H} (W:World) {base:Nat} (v0:Value) (d0:DataW H) (p0:List MemPlace) (v1:Value) (d1:DataW H) (p1:List MemPlace)
  (o0:Value.okWide Tryz.prog W .any base 27 v0) (h0:DataW.Trod enc Tryz.prog W 0 (λ_=>true) true 27 v0 d0 p0)
  (o1:Value.okWide Tryz.prog W .any base 28 v1) (h1:DataW.Trod enc Tryz.prog W 0 (λ_=>true) true 28 v1 d1 p1)
  (hz:(DataW.weightsEach Tryz.prog [27,28] [d0,d1]).all (·<=reachBytes)=true) (hb:Rows.uptoBulkAll [d0,d1]<=1048576) (hL:laidMetH Tryz.prog Rows.packOrderUptoRow.laid W) (m:Int) (hm:W.cell? ⟨0,0,none⟩=some (.int .i64 m)) :
  Calls Tryz.prog 4 #[v0,v1] W λe W'=>e = .returned (.bool true)/\Below W.heap.size W W':=by
 obtain⟨la,ll,lc,rfl⟩:=okWide_slice Tryz.underlying27 o0;obtain⟨aK,rQ,hO⟩:=os.zc3 h0 (qo4 hz (j:=0) rfl rfl);obtain⟨a1,zaU,fN,rfl⟩:=okWide_slice Tryz.underlying28 o1;obtain⟨xs1,sp1,A1,zbE,og⟩:=qvm Tryz.underlying28 Tryz.underlying3 (by kernel_rfl) h1;obtain rfl:=rQ;obtain rfl:=A1.length;exact (os.zc0 la lc aK a1 fN xs1 m W hO A1.cs (ck A1.le A1.max) (qwn hL) hm).mono λe W2 h=>⟨h.1,qoc h.2⟩
theorem own:ownKnob Tryz.prog.godebug=none:=by kernel_rfl
theorem laidOut:laidOutB Tryz.prog=true:=by kernel_rfl
theorem reads (os:Os) {H:Type} (enc:TypeId×Value->H):∃places,DataW.whole enc Tryz.prog ((World.laidAll Tryz.prog os Rows.packOrderUptoRow.laid).forCall (λ_ _=>0) ⟨#[],#[.slice none 0 0,.slice none 0 0],[]⟩).memory Tryz.f4.params.toList Rows.packOrderSpec.vars false (#[.slice none 0 0,.slice none 0 0]:AV).toList 8=some ([.nil,.nil],[],places):=⟨[],by kernel_rfl⟩
theorem lifted (os:Os) (started:os.Started) (H:Type) (enc:TypeId×Value->H) (G:Stop.Interp) :
  ReturnsInHanded {} Tryz.checked os 4 .any ((Rows.OpenSpec.upto Rows.packOrderSpec).preRow enc Tryz.prog Tryz.f4 Rows.packOrderUptoRow.domain false Rows.packOrderUptoRow.laid) (((Rows.OpenSpec.upto Rows.packOrderSpec).at G).post enc Tryz.prog Tryz.f4 false true false false):=by
 obtain⟨places,hx⟩:=reads os enc;refine returnsInHanded_of_row (C:=Tryz.checked) (s:=(Rows.OpenSpec.upto Rows.packOrderSpec)) own started (by kernel_rfl) Tryz.func4
  (qsw (enc:=enc) (C:=Tryz.checked) false (World.laidAll Tryz.prog os Rows.packOrderUptoRow.laid) #[.slice none 0 0,.slice none 0 0] (World.laidAll_os _ _ _) (World.shaped_of_ZipB (by kernel_rfl) (by kernel_rfl)) (by kernel_rfl)
   (OpenSpec.preRow_of_cond 8 hx (by kernel_rfl) (λk hk=>by cases hk;kernel_rfl) (by kernel_rfl) (by rw[MakeChecks.laidMetH_plain _ _ _ (by kernel_rfl)];exact laidMet_laidAll _ (by kernel_rfl) (by kernel_rfl)))) ?_
 intro W base args ds gs before hval hW _ Qa cV hL mA _;have hk:=Qa _ rfl;obtain⟨m,hm⟩:=Tryz.laysM185.s1_3 W mA;have Ug:=hW;obtain⟨p,q,DB,hV,rfl,yD,ED⟩:=Ug;have hA:DataW.TrodAll enc Tryz.prog W 0 (λ_=>true) true Tryz.f4.params.toList args.toList ds p:=DB;rw[Tryz.params4]at hA hval;obtain⟨v0,vs0,d0,ds0,p0,q0,zaT,rfl,rfl,h0,r0⟩:=trodAll_cons hA;obtain⟨v1,vs1,d1,ds1,p1,q1,rfl,rfl,rfl,h1,r1⟩:=trodAll_cons r0;obtain⟨rfl,rfl,rfl⟩:=trodAll_nil r1;obtain rfl:args=#[v0,v1]:=by cases args;simp_all
 obtain⟨rfl,rfl⟩:=trodVars_none hV;have hz:(DataW.weightsEach Tryz.prog [27,28] [d0,d1]).all (·<=reachBytes)=true:=cV;have hb:Rows.uptoBulkAll [d0,d1]<=1048576:=of_decide_eq_true (show decide _=true from hk);refine qrw (s:=((Rows.OpenSpec.upto Rows.packOrderSpec).at G)) laidOut (by kernel_rfl) rfl rfl Tryz.underlying4 hW (λgs _ h2=>by subst h2;rfl) ?_;exact walk W v0 d0 p0 v1 d1 p1 (hval 0 27 v0 rfl rfl) (h0) (hval 1 28 v1 rfl rfl) (h1) hz hb hL m hm
theorem over:Rows.packOrderUptoRow.holds Tryz.pinned (Rows.OpenSpec.upto Rows.packOrderSpec):=
 OpenClaim.holds_of_cond 4 Tryz.f4 rfl rfl rfl rfl rfl rfl rfl ⟨rfl,rfl,rfl,rfl,rfl⟩ rfl rfl rfl rfl rfl (by kernel_rfl) Tryz.func4 (by kernel_rfl)
  (of_decide_eq_true (by kernel_rfl)) (by unfold Func.isWrapper;first|(rw[if_pos (by decide +kernel)];kernel_rfl)|(rw[if_neg (by decide +kernel)];exact⟨rfl,rfl⟩))
  (λos started H enc _ G=>by rw[OpenClaim.pre_eq_preRow];exact lifted os started H enc G)
theorem proved:Rows.PackOrderUptoCardSaid:=
 Claim7.holds_tied_plain_at .later [] [.data,.data,.data] true (true, "d0d861efebdc674cd34ba13b4887dc8f133837954f0c3d7577248866046ebc0d") true
  over (λ_ h=>by cases h) (by kernel_rfl) (λ_ h=>by cases h) packOrderUpto_row_tie rfl ⟨rfl,rfl⟩ (by kernel_rfl) rfl
  (λf fn hf B8=>by
   obtain rfl:f=4:=lA ((show Tryz.prog.funcNamed "stemma/stemmalaw11.PackOrder" = some 4 by kernel_rfl).symm.trans hf) |>.symm
   obtain rfl:fn=Tryz.f4:=(lA (Tryz.func4.symm.trans B8)).symm
   exact⟨by kernel_rfl,λj t ht=>by
    rw[Tryz.params4]at ht
    have hm:t∈[27,28]:=by simpa using Array.mem_of_getElem? ht
    have aD:([27,28].all λu=>!Tryz.prog.wantsStandIn u)=true:=by kernel_rfl
    exact (show Tryz.prog.wantsStandIn t=false by simpa using Ic.1 aD t hm)⟩)
  (by kernel_rfl)
end packOrder
end Go.Proofs.YtkmpfgpfbmeihaaGreatDoor
