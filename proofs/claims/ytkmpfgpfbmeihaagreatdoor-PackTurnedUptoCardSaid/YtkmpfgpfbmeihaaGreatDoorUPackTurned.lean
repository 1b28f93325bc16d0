/-
  Whatever objects, whatever place and whatever byte come in (of bulk at most 1048576), stemmalaw11.PackTurned answers true and changes nothing that was there.
-/
import Derived.Test.YtkmpfgpfbmeihaaGreatDoorU28
import Derived.Test.YtkmpfgpfbmeihaaGreatDoorCards
import Derived.Test.YtkmpfgpfbmeihaaGreatDoorTie
import Derived.ProofKit
import Derived.Lay
import Derived.LaidOnce
import Derived.LaidLaws
import Derived.SevenTiedAt
import Derived.Deep.DeepHandedRow
set_option maxHeartbeats 16000000
set_option maxRecDepth 100000
set_option linter.unusedVariables false
set_option linter.unusedSimpArgs false
namespace Go.Proofs.YtkmpfgpfbmeihaaGreatDoor
namespace packTurned
open Go Go.RowKit Go.ChangeShapes Go.WideShapes lib bm pk
theorem qrn {H:Type} {enc:TypeId×Value->H} {C:Checked} {os:Os} {f:FuncId} {fn:Func} {s:OpenSpec} {conds:List PathCond} {apart:Bool} {laid:List (String×DataW Unit)} (modest:Bool) (w0:World) (args:Array Value) (Sv:w0.os=os)
  (lT:(w0.forCall (λ_ _=>0) ⟨#[],args,[]⟩).Shaped C.prog)
  (jz:Input.okWideB C.prog (w0.forCall (λ_ _=>0) ⟨#[],args,[]⟩) f ⟨#[],args,[]⟩=true)
  (dI:s.preRow enc C.prog fn conds apart laid (w0.forCall (λ_ _=>0) ⟨#[],args,[]⟩).memory args) :
  ∃(w:World) (tape:Tape) (i:Input),w.os=os/\(w.forCall tape i).Shaped C.prog/\i.vars=[]/\Input.okWide C.prog (w.forCall tape i) .any w.heap.size f i/\
   s.preRow enc C.prog fn conds apart laid (w.forCall tape i).memory i.args/\({ modest:=modest }:Assume).holds C.prog (lone (Frame.enter C.prog f i.args .normal) [] (w.forCall tape i)):=
 ⟨w0,λ_ _=>0,⟨#[],args,[]⟩,Sv,lT,(Input.okWide_of_okWideB (base:=0) jz).1,(Input.okWide_of_okWideB jz).2,dI,by
  simp only[Assume.holds]
  exact⟨by simp,by simp,λ_=>Modest.zero,by simp,by simp⟩⟩
theorem quv {W:World} (h:laidMetH Tryz.prog Rows.packTurnedUptoRow.laid W):obj.Pw W:=by
 rw[MakeChecks.laidMetH_plain _ _ _ (by kernel_rfl)]at h;obtain⟨ps,⟨g1,t1,Ze,f1,p1,q1,_,_,_,_,⟨g2,t2,Tc,f2,p2,q2,_,_,_,_,⟨g',t',cs,fuel,p,q,hg',Sm,WM,hd,_,_⟩,_⟩,_⟩,_⟩:=h;have hg:Tryz.prog.globalNamed "internal/strconv.uint64pow10" = some 1:=by kernel_rfl
 have hty:(Tryz.prog.globals[1]?).map (·.type)=some 316:=by kernel_rfl
 obtain rfl:=lL (hg.symm.trans hg');obtain rfl:=lL (hty.symm.trans Sm);have hu:Tryz.prog.underlying 316=some (.array 20 104):=by kernel_rfl
 have SK:DataW.trod (λ_=>()) Tryz.prog W 0 (λ_=>true) false fuel 316 cs.toList=some (Lib.tabData .u64 Lib.pow10Tab,p):=hd;unfold obj.Pw Lib.TabIs;rw[WM,<-Lib.cells_of_tab hu Tryz.underlying104 (by kernel_rfl) (by kernel_rfl) SK]
theorem walk {H:Type} {enc:TypeId×Value->H} (W:World) {base:Nat} (v0:Value) (d0:DataW H) (p0:List MemPlace) (v1:Value) (d1:DataW H) (p1:List MemPlace) (v2:Value) (d2:DataW H) (p2:List MemPlace)
  (o0:Value.okWide Tryz.prog W .any base 27 v0) (h0:DataW.Trod enc Tryz.prog W 0 (λ_=>true) true 27 v0 d0 p0)
  (o1:Value.okWide Tryz.prog W .any base 3 v1) (h1:DataW.Trod enc Tryz.prog W 0 (λ_=>true) true 3 v1 d1 p1)
  (o2:Value.okWide Tryz.prog W .any base 5 v2) (h2:DataW.Trod enc Tryz.prog W 0 (λ_=>true) true 5 v2 d2 p2)
  (hz:(DataW.weightsEach Tryz.prog [27,3,5] [d0,d1,d2]).all (·<=reachBytes)=true) (hb:Rows.uptoBulkAll [d0,d1,d2]<=1048576) (hL:laidMetH Tryz.prog Rows.packTurnedUptoRow.laid W) (m:Int) (hm:W.cell? ⟨0,0,none⟩=some (.int .i64 m)) :
  Calls Tryz.prog 5 #[v0,v1,v2] W λe W'=>e = .returned (.bool true)/\Below W.heap.size W W':=by
 obtain⟨la,ll,lc,rfl⟩:=okWide_slice Tryz.underlying27 o0;obtain⟨aJ,rJ,hO⟩:=os.zav h0 (qn6 hz (j:=0) rfl rfl);obtain rfl:=rJ;obtain⟨x1,rfl,rfl,rfl,wx1⟩:=open_int Tryz.underlying3 o1 h1;obtain⟨x2,rfl,rfl,rfl,Tx⟩:=open_int Tryz.underlying5 o2 h2;have jU:0<=x2/\x2<256:=by simp[Lit.wf]at Tx;have e8:IntKind.u8.max=255:=rfl;exact⟨Tx.1,by have:=Tx.2;omega⟩
 have e2:Value.int .u8 x2=bv (UInt8.ofNat x2.toNat):=by unfold bv;rw[KJ (by omega)];congr 1;omega
 rw[e2];exact (os.qv7 la lc aJ x1 (UInt8.ofNat x2.toNat) m W hO (quv hL) hm).mono λe W2 h=>⟨h.1,qni h.2⟩
theorem own:ownKnob Tryz.prog.godebug=none:=by kernel_rfl
theorem laidOut:laidOutB Tryz.prog=true:=by kernel_rfl
theorem reads (os:Os) {H:Type} (enc:TypeId×Value->H):∃places,DataW.whole enc Tryz.prog ((World.laidAll Tryz.prog os Rows.packTurnedUptoRow.laid).forCall (λ_ _=>0) ⟨#[],#[.slice none 0 0,.int .i64 0,.int .u8 0],[]⟩).memory Tryz.f5.params.toList Rows.packTurnedSpec.vars false (#[.slice none 0 0,.int .i64 0,.int .u8 0]:Array Value).toList 8=some ([.nil,.lit (.int .i64 0),.lit (.int .u8 0)],[],places):=⟨[],by kernel_rfl⟩
theorem lifted (os:Os) (started:os.Started) (H:Type) (enc:TypeId×Value->H) (G:Stop.Interp) :
  ReturnsInHanded {} Tryz.checked os 5 .any ((Rows.OpenSpec.upto Rows.packTurnedSpec).preRow enc Tryz.prog Tryz.f5 Rows.packTurnedUptoRow.domain false Rows.packTurnedUptoRow.laid) (((Rows.OpenSpec.upto Rows.packTurnedSpec).at G).post enc Tryz.prog Tryz.f5 false true false false):=by
 obtain⟨places,hx⟩:=reads os enc;refine returnsInHanded_of_row (C:=Tryz.checked) (s:=(Rows.OpenSpec.upto Rows.packTurnedSpec)) own started (by kernel_rfl) Tryz.func5
  (qrn (enc:=enc) (C:=Tryz.checked) false (World.laidAll Tryz.prog os Rows.packTurnedUptoRow.laid) #[.slice none 0 0,.int .i64 0,.int .u8 0] (World.laidAll_os _ _ _) (World.shaped_of_ZipB (by kernel_rfl) (by kernel_rfl)) (by kernel_rfl)
   (OpenSpec.preRow_of_cond 8 hx (by kernel_rfl) (λk hk=>by cases hk;kernel_rfl) (by kernel_rfl) (by rw[MakeChecks.laidMetH_plain _ _ _ (by kernel_rfl)];exact laidMet_laidAll _ (by kernel_rfl) (by kernel_rfl)))) ?_
 intro W base args ds gs before hval hW _ O1 cF hL lT _;have hk:=O1 _ rfl;obtain⟨m,hm⟩:=Tryz.laysM185.s1_3 W lT;have SU:=hW;obtain⟨p,q,C6,hV,rfl,Bp,Eg⟩:=SU;have hA:DataW.TrodAll enc Tryz.prog W 0 (λ_=>true) true Tryz.f5.params.toList args.toList ds p:=C6;rw[Tryz.params5]at hA hval;obtain⟨v0,vs0,d0,ds0,p0,q0,zaH,rfl,rfl,h0,r0⟩:=trodAll_cons hA;obtain⟨v1,vs1,d1,ds1,p1,q1,rfl,rfl,rfl,h1,r1⟩:=trodAll_cons r0;obtain⟨v2,vs2,d2,ds2,p2,q2,rfl,rfl,rfl,h2,r2⟩:=trodAll_cons r1;obtain⟨rfl,rfl,rfl⟩:=trodAll_nil r2;obtain rfl:args=#[v0,v1,v2]:=by cases args;simp_all
 obtain⟨rfl,rfl⟩:=trodVars_none hV;have hz:(DataW.weightsEach Tryz.prog [27,3,5] [d0,d1,d2]).all (·<=reachBytes)=true:=cF;have hb:Rows.uptoBulkAll [d0,d1,d2]<=1048576:=of_decide_eq_true (show decide _=true from hk);refine qqr (s:=((Rows.OpenSpec.upto Rows.packTurnedSpec).at G)) laidOut (by kernel_rfl) rfl rfl Tryz.underlying4 hW (λgs _ h2=>by subst h2;rfl) ?_;exact walk W v0 d0 p0 v1 d1 p1 v2 d2 p2 (hval 0 27 v0 rfl rfl) (h0) (hval 1 3 v1 rfl rfl) (h1) (hval 2 5 v2 rfl rfl) (h2) hz hb hL m hm
theorem over:Rows.packTurnedUptoRow.holds Tryz.pinned (Rows.OpenSpec.upto Rows.packTurnedSpec):=
 OpenClaim.holds_of_cond 5 Tryz.f5 rfl rfl rfl rfl rfl rfl rfl ⟨rfl,rfl,rfl,rfl,rfl⟩ rfl rfl rfl rfl rfl (by kernel_rfl) Tryz.func5 (by kernel_rfl)
  (of_decide_eq_true (by kernel_rfl)) (by unfold Func.isWrapper;first|(rw[if_pos (by decide +kernel)];kernel_rfl)|(rw[if_neg (by decide +kernel)];exact⟨rfl,rfl⟩))
  (λos started H enc _ G=>by rw[OpenClaim.pre_eq_preRow];exact lifted os started H enc G)
theorem proved:Rows.PackTurnedUptoCardSaid:=
 Claim7.holds_tied_plain_at .later [] [.data,.data,.data] true (true, "d0d861efebdc674cd34ba13b4887dc8f133837954f0c3d7577248866046ebc0d") true
  over (λ_ h=>by cases h) (by kernel_rfl) (λ_ h=>by cases h) packTurnedUpto_row_tie rfl ⟨rfl,rfl⟩ (by kernel_rfl) rfl
  (λf fn hf Bq=>by
   obtain rfl:f=5:=lL ((show Tryz.prog.funcNamed "stemma/stemmalaw11.PackTurned" = some 5 by kernel_rfl).symm.trans hf) |>.symm
   obtain rfl:fn=Tryz.f5:=(lL (Tryz.func5.symm.trans Bq)).symm
   exact⟨by kernel_rfl,λj t ht=>by
    rw[Tryz.params5]at ht
    have hm:t∈[27,3,5]:=by simpa using Array.mem_of_getElem? ht
    have aE:([27,3,5].all λu=>!Tryz.prog.wantsStandIn u)=true:=by kernel_rfl
    exact (show Tryz.prog.wantsStandIn t=false by simpa using Kk.1 aE t hm)⟩)
  (by kernel_rfl)
end packTurned
end Go.Proofs.YtkmpfgpfbmeihaaGreatDoor
