/-
  Whatever bytes and whatever place come in, stemmalaw11.PackThin answers true and changes nothing that was there.
-/
import Derived.Test.YtkmpfgpfbmeihaaGreatDoorS27
import Derived.Test.YtkmpfgpfbmeihaaGreatDoorCards
import Derived.Test.YtkmpfgpfbmeihaaGreatDoorTie
import Derived.ProofKit
import Derived.Lay
import Derived.LaidOnce
import Derived.LaidLaws
import Derived.SevenTiedAt
import Derived.HandedShaped
set_option maxHeartbeats 16000000
set_option maxRecDepth 100000
set_option linter.unusedVariables false
set_option linter.unusedSimpArgs false
namespace Go.Proofs.YtkmpfgpfbmeihaaGreatDoor.packThin
open Go Go.RowKit Go.ChangeShapes Go.WideShapes lib bm pk
theorem qs0 {H:Type} {enc:TypeId×Value→H} {a:Assume} {C:Checked} {os:Os} {f:FuncId} {fn:Func} {s:ChangeSpec} {conds:List PathCond} {apart fresh handsOn again:Bool} {X:World→Array Value→Prop}
  (hX:∀(w w':World) (args:Array Value),w.heap=w'.heap→X w args→X w' args)
  (own:ownKnob C.prog.godebug=none) (started:os.Started) (noInit:C.prog.inits.idxOf? f=none) (hfn:C.prog.funcs[f]?=some fn)
  (witness:∃(w:World) (tape:Tape) (i:Input),w.os=os∧(w.forCall tape i).Shaped C.prog∧i.vars=[]∧Input.okWide C.prog (w.forCall tape i) .any w.heap.size f i∧
   ((s.pre enc C.prog fn conds apart (w.forCall tape i).memory i.args∧X (w.forCall tape i).memory i.args)∧sizedMet enc C.prog fn (OpenSpec.ofChange s) apart (w.forCall tape i).memory i.args)∧a.holds C.prog (lone (Frame.enter C.prog f i.args .normal) [] (w.forCall tape i)))
  (contract:∀(W:World) (base:Nat) (args:Array Value) (ds gs:List (DataW H)) (before:List MemPlace),
   (∀(j:Nat) t v,fn.params[j]?=some t→args[j]?=some v→Value.okWide C.prog W .any base t v)→
   DataW.Whole enc C.prog fn.params.toList s.vars apart W args.toList ds gs before→
   conds.all (PathCond.test C.prog ⟨fn.params.toList,ds,s.plain.varTypes C.prog,gs⟩)=true→
   (DataW.weightsEach C.prog (fn.params.toList++s.plain.varTypes C.prog) (ds++gs)).all (·≤reachBytes)=true→X W args→W.ShapedOpen C.prog→
   a.holds C.prog (lone (Frame.enter C.prog f args .normal) [] W)→
   Calls C.prog f args W λe W'=>∃v,e = .returned v∧s.post enc C.prog fn apart fresh handsOn again W args v W') :
  ReturnsInHanded a C os f .any (λw args=>(s.pre enc C.prog fn conds apart w args∧X w args)∧sizedMet enc C.prog fn (OpenSpec.ofChange s) apart w args) (s.post enc C.prog fn apart fresh handsOn again):=by
 refine returnsInHanded_of_calls own started noInit witness ?_;intro w tape i _ hsh _ hok hpre hholds;obtain⟨_,_,_,fn',hfn',_,_,_,_,hval⟩:=hok;have e:fn'=fn:=qbm (hfn'.symm.trans hfn);subst e;obtain⟨⟨⟨ds,gs,before,hw,hc⟩,hx⟩,hz⟩:=hpre;have hw':=DataW.Whole.of_heap (w':=w.forCall tape i) (by rfl) hw;refine (contract (w.forCall tape i) w.heap.size i.args ds gs before hval hw' hc (hz.weights hw) (hX _ _ _ (by rfl) hx) hsh hholds).mono λe W' ⟨v,he,hp⟩=>?_
 subst he;exact ChangeSpec.post_blind hp
theorem qvh {W:World} (h:laidMetH Tryz.prog Rows.packThinRow.laid W):obj.Pw W:=by
 rw[MakeChecks.laidMetH_plain _ _ _ (by kernel_rfl)]at h;obtain⟨ps,⟨g1,t1,cs1,f1,p1,q1,_,_,_,_,⟨g2,t2,cs2,f2,p2,q2,_,_,_,_,⟨g',t',cs,fuel,p,q,hg',ht',hvar,hd,_,_⟩,_⟩,_⟩,_⟩:=h;have hg:Tryz.prog.globalNamed "internal/strconv.uint64pow10" = some 1:=by kernel_rfl
 have hty:(Tryz.prog.globals[1]?).map (·.type)=some 316:=by kernel_rfl
 obtain rfl:=qbm (hg.symm.trans hg');obtain rfl:=qbm (hty.symm.trans ht');have hu:Tryz.prog.underlying 316=some (.array 20 104):=by kernel_rfl
 have hd':DataW.trod (λ_=>()) Tryz.prog W 0 (λ_=>true) false fuel 316 cs.toList=some (Lib.tabData .u64 Lib.pow10Tab,p):=hd;unfold obj.Pw Lib.TabIs;rw[hvar,<-Lib.cells_of_tab hu Tryz.underlying104 (by kernel_rfl) (by kernel_rfl) hd']
theorem cellsU8:Tryz.prog.cellsOf 5=1:=by kernel_rfl
theorem bytesU8:Tryz.prog.bytesOf 5=1:=by kernel_rfl
theorem walk {H:Type} {enc:TypeId×Value→H} (W:World) {base:Nat} (v0:Value) (d0:DataW H) (p0:List MemPlace) (v1:Value) (d1:DataW H) (p1:List MemPlace)
  (o0:Value.okWide Tryz.prog W .any base 23 v0) (h0:DataW.Trod enc Tryz.prog W 0 (λ_=>true) true 23 v0 d0 p0)
  (o1:Value.okWide Tryz.prog W .any base 3 v1) (h1:DataW.Trod enc Tryz.prog W 0 (λ_=>true) true 3 v1 d1 p1)
  (hz:(DataW.weightsEach Tryz.prog [23,3] [d0,d1]).all (·≤reachBytes)=true) (hL:laidMetH Tryz.prog Rows.packThinRow.laid W) (m:Int) (hm:W.cell? ⟨0,0,none⟩=some (.int .i64 m)) :
  Calls Tryz.prog 7 #[v0,v1] W λe W'=>e = .returned (.bool true)∧Below W.heap.size W W':=by
 obtain⟨x1,rfl,rfl,rfl,wx1⟩:=open_int Tryz.underlying3 o1 h1;obtain⟨a,len,cap,rfl⟩:=okWide_slice Tryz.underlying23 o0;obtain⟨bs,B,_⟩:=qz3 Tryz.underlying23 Tryz.underlying5 cellsU8 bytesU8 h0 (qvt hz (j:=0) rfl rfl);obtain rfl:=B.length;exact (zee a cap bs x1 m W (.of_arg B) (qvh hL) hm).mono λe W2 h=>⟨h.1,qnl h.2⟩
theorem own:ownKnob Tryz.prog.godebug=none:=by kernel_rfl
theorem laidOut:laidOutB Tryz.prog=true:=by kernel_rfl
theorem lifted (os:Os) (started:os.Started) (H:Type) (enc:TypeId×Value→H) :
  ReturnsInHanded {} Tryz.checked os 7 .any (λw args=>(Rows.packThinSpec.pre enc Tryz.prog Tryz.f7 [] false w args∧laidMetH Tryz.prog Rows.packThinRow.laid w)∧sizedMet enc Tryz.prog Tryz.f7 (OpenSpec.ofChange Rows.packThinSpec) false w args) (Rows.packThinSpec.post enc Tryz.prog Tryz.f7 false true false false):=by
 refine qs0 (C:=Tryz.checked) (X:=λw _=>laidMetH Tryz.prog Rows.packThinRow.laid w) (λ_ _ _ hh h=>h.of_heap hh) own started (by kernel_rfl) Tryz.func7
  (ChangeSpec.witness_shaped (enc:=enc) (C:=Tryz.checked) (os:=os) (X:=λw _=>laidMetH Tryz.prog Rows.packThinRow.laid w) false (World.laidAll Tryz.prog os Rows.packThinRow.laid) #[.slice none 0 0,.int .i64 0] 8 (World.laidAll_os _ _ _)
   (World.shaped_of_ZipB (by kernel_rfl) (by kernel_rfl)) (by kernel_rfl) (by kernel_rfl) (by kernel_rfl)
   (by rw[MakeChecks.laidMetH_plain _ _ _ (by kernel_rfl)];exact laidMet_laidAll _ (by kernel_rfl) (by kernel_rfl))) ?_
 intro W base args ds gs before hval hW _ hsz hL hsh _;obtain⟨m,hm⟩:=Tryz.laysM185.s1_3 W hsh;have hW':=hW;obtain⟨p,q,hA0,hV,rfl,hfz,hnd⟩:=hW';have hA:DataW.TrodAll enc Tryz.prog W 0 (λ_=>true) true Tryz.f7.params.toList args.toList ds p:=hA0;rw[Tryz.params7]at hA hval;obtain⟨v0,vs0,d0,ds0,p0,q0,hargs,rfl,rfl,h0,r0⟩:=trodAll_cons hA;obtain⟨v1,vs1,d1,ds1,p1,q1,rfl,rfl,rfl,h1,r1⟩:=trodAll_cons r0;obtain⟨rfl,rfl,rfl⟩:=trodAll_nil r1;obtain rfl:args=#[v0,v1]:=by cases args;simp_all
 obtain⟨rfl,rfl⟩:=trodVars_none hV;have hz:(DataW.weightsEach Tryz.prog [23,3] [d0,d1]).all (·≤reachBytes)=true:=hsz;refine qq4 (s:=Rows.packThinSpec) laidOut (by kernel_rfl) rfl rfl Tryz.underlying4 hW (λgs _ h2=>by subst h2;rfl) ?_;exact walk W v0 d0 p0 v1 d1 p1 (hval 0 23 v0 rfl rfl) (h0) (hval 1 3 v1 rfl rfl) (h1) hz hL m hm
theorem over:Rows.packThinRow.holds Tryz.pinned (OpenSpec.ofChange Rows.packThinSpec):=
 OpenClaim.holds_of_wide 7 Tryz.f7 rfl rfl rfl rfl rfl rfl rfl ⟨rfl,rfl,rfl,rfl,rfl⟩ rfl rfl rfl rfl rfl (by kernel_rfl) Tryz.func7 (by kernel_rfl)
  (of_decide_eq_true (by kernel_rfl)) (by unfold Func.isWrapper;first|(rw[if_pos (by decide +kernel)];kernel_rfl)|(rw[if_neg (by decide +kernel)];exact⟨rfl,rfl⟩))
  (λos started H enc _=>lifted os started H enc)
theorem proved:Rows.PackThinCardSaid:=
 Claim7.holds_tied_plain_at .later [] [.data,.data,.data] true (true, "d0d861efebdc674cd34ba13b4887dc8f133837954f0c3d7577248866046ebc0d") true
  over (λ_ h=>by cases h) (by kernel_rfl) (λ_ h=>by cases h) packThin_row_tie rfl ⟨rfl,rfl⟩ (by kernel_rfl) rfl
  (λf fn hf hfn=>by
   obtain rfl:f=7:=qbm ((show Tryz.prog.funcNamed "stemma/stemmalaw11.PackThin" = some 7 by kernel_rfl).symm.trans hf) |>.symm
   obtain rfl:fn=Tryz.f7:=(qbm (Tryz.func7.symm.trans hfn)).symm
   exact⟨by kernel_rfl,λj t ht=>by
    rw[Tryz.params7]at ht
    have hm:t∈[23,3]:=by simpa using Array.mem_of_getElem? ht
    have hall:([23,3].all λu=>!Tryz.prog.wantsStandIn u)=true:=by kernel_rfl
    exact (show Tryz.prog.wantsStandIn t=false by simpa using qi5.1 hall t hm)⟩)
  (by kernel_rfl)
end Go.Proofs.YtkmpfgpfbmeihaaGreatDoor.packThin
