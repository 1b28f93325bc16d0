/-
  Whatever kind, bytes, file and text come in, stemmalaw9.LooseFiles answers true and changes nothing that was there.
-/
import Derived.Test.YtbabjlohkniciaaGreatDoorV25
import Derived.Test.YtbabjlohkniciaaGreatDoorCards
import Derived.Test.YtbabjlohkniciaaGreatDoorTie
import Derived.ProofKit
import Derived.Lay
import Derived.LaidOnce
import Derived.LaidLaws
import Derived.SevenTiedAt
import Derived.HandedShaped
set_option maxHeartbeats 16000000
set_option maxRecDepth 100000
set_option linter.unusedVariables false
set_option linter.unusedSimpArgs false
namespace Go.Proofs.YtbabjlohkniciaaGreatDoor.looseFiles
open Go Go.RowKit Go.ChangeShapes Go.WideShapes lib bm pk lo
theorem qq5 {H:Type} {enc:TypeId×Value→H} {a:Assume} {C:Checked} {os:Os} {f:FuncId} {fn:Func} {s:ChangeSpec} {conds:List PathCond} {apart fresh handsOn again:Bool} {X:World→Array Value→Prop}
  (hX:∀(w w':World) (args:Array Value),w.heap=w'.heap→X w args→X w' args)
  (own:ownKnob C.prog.godebug=none) (started:os.Started) (noInit:C.prog.inits.idxOf? f=none) (hfn:C.prog.funcs[f]?=some fn)
  (witness:∃(w:World) (tape:Tape) (i:Input),w.os=os∧(w.forCall tape i).Shaped C.prog∧i.vars=[]∧Input.okWide C.prog (w.forCall tape i) .any w.heap.size f i∧
   ((s.pre enc C.prog fn conds apart (w.forCall tape i).memory i.args∧X (w.forCall tape i).memory i.args)∧sizedMet enc C.prog fn (OpenSpec.ofChange s) apart (w.forCall tape i).memory i.args)∧a.holds C.prog (lone (Frame.enter C.prog f i.args .normal) [] (w.forCall tape i)))
  (contract:∀(W:World) (base:Nat) (args:Array Value) (ds gs:List (DataW H)) (before:List MemPlace),
   (∀(j:Nat) t v,fn.params[j]?=some t→args[j]?=some v→Value.okWide C.prog W .any base t v)→
   DataW.Whole enc C.prog fn.params.toList s.vars apart W args.toList ds gs before→
   conds.all (PathCond.test C.prog ⟨fn.params.toList,ds,s.plain.varTypes C.prog,gs⟩)=true→
   (DataW.weightsEach C.prog (fn.params.toList++s.plain.varTypes C.prog) (ds++gs)).all (·≤reachBytes)=true→X W args→W.ShapedOpen C.prog→
   a.holds C.prog (lone (Frame.enter C.prog f args .normal) [] W)→
   Calls C.prog f args W λe W'=>∃v,e = .returned v∧s.post enc C.prog fn apart fresh handsOn again W args v W') :
  ReturnsInHanded a C os f .any (λw args=>(s.pre enc C.prog fn conds apart w args∧X w args)∧sizedMet enc C.prog fn (OpenSpec.ofChange s) apart w args) (s.post enc C.prog fn apart fresh handsOn again):=by
 refine returnsInHanded_of_calls own started noInit witness ?_;intro w tape i _ hsh _ hok hpre hholds;obtain⟨_,_,_,fn',hfn',_,_,_,_,hval⟩:=hok;have e:fn'=fn:=qa2 (hfn'.symm.trans hfn);subst e;obtain⟨⟨⟨ds,gs,before,hw,hc⟩,hx⟩,hz⟩:=hpre;have hw':=DataW.Whole.of_heap (w':=w.forCall tape i) (by rfl) hw;refine (contract (w.forCall tape i) w.heap.size i.args ds gs before hval hw' hc (hz.weights hw) (hX _ _ _ (by rfl) hx) hsh hholds).mono λe W' ⟨v,he,hp⟩=>?_
 subst he;exact ChangeSpec.post_blind hp
theorem qtw {W:World} (h:laidMetH Tryz.prog Rows.looseFilesRow.laid W):obj.Pw W:=by
 rw[MakeChecks.laidMetH_plain _ _ _ (by kernel_rfl)]at h;obtain⟨ps,⟨g1,t1,cs1,f1,p1,q1,_,_,_,_,⟨g2,t2,cs2,f2,p2,q2,_,_,_,_,⟨g',t',cs,fuel,p,q,hg',ht',hvar,hd,_,_⟩,_⟩,_⟩,_⟩:=h;have hg:Tryz.prog.globalNamed "internal/strconv.uint64pow10" = some 3:=by kernel_rfl
 have hty:(Tryz.prog.globals[3]?).map (·.type)=some 275:=by kernel_rfl
 obtain rfl:=qa2 (hg.symm.trans hg');obtain rfl:=qa2 (hty.symm.trans ht');have hu:Tryz.prog.underlying 275=some (.array 20 88):=by kernel_rfl
 have hd':DataW.trod (λ_=>()) Tryz.prog W 0 (λ_=>true) false fuel 275 cs.toList=some (Lib.tabData .u64 Lib.pow10Tab,p):=hd;unfold obj.Pw Lib.TabIs;rw[hvar,<-Lib.cells_of_tab hu Tryz.underlying88 (by kernel_rfl) (by kernel_rfl) hd']
theorem qzw (W:World) (h:W.ShapedOpen Tryz.prog):∃m,W.cell? ⟨0,0,none⟩=some (.int .i64 m):=Go.Proofs.cell_of_shapedOpen_int (zero:=#[.int .i64 0]) (t:=3) h (of_decide_eq_true (by kernel_rfl)) (by kernel_rfl) rfl (by kernel_rfl) (by kernel_rfl) Tryz.underlying3
theorem cellsU8:Tryz.prog.cellsOf 5=1:=by kernel_rfl
theorem bytesU8:Tryz.prog.bytesOf 5=1:=by kernel_rfl
theorem walk {H:Type} {enc:TypeId×Value→H} (W:World) {base:Nat} (v0:Value) (d0:DataW H) (p0:List MemPlace) (v1:Value) (d1:DataW H) (p1:List MemPlace) (v2:Value) (d2:DataW H) (p2:List MemPlace) (v3:Value) (d3:DataW H) (p3:List MemPlace)
  (o0:Value.okWide Tryz.prog W .any base 3 v0) (h0:DataW.Trod enc Tryz.prog W 0 (λ_=>true) true 3 v0 d0 p0)
  (o1:Value.okWide Tryz.prog W .any base 22 v1) (h1:DataW.Trod enc Tryz.prog W 0 (λ_=>true) true 22 v1 d1 p1)
  (o2:Value.okWide Tryz.prog W .any base 22 v2) (h2:DataW.Trod enc Tryz.prog W 0 (λ_=>true) true 22 v2 d2 p2)
  (o3:Value.okWide Tryz.prog W .any base 9 v3) (h3:DataW.Trod enc Tryz.prog W 0 (λ_=>true) true 9 v3 d3 p3)
  (hz:(DataW.weightsEach Tryz.prog [3,22,22,9] [d0,d1,d2,d3]).all (·≤reachBytes)=true) (hL:laidMetH Tryz.prog Rows.looseFilesRow.laid W) (m:Int) (hm:W.cell? ⟨0,0,none⟩=some (.int .i64 m)) :
  Calls Tryz.prog 4 #[v0,v1,v2,v3] W λe W'=>e = .returned (.bool true)∧Below W.heap.size W W':=by
 obtain⟨x0,rfl,rfl,rfl,wx0⟩:=open_int Tryz.underlying3 o0 h0;obtain⟨a1,l1,c1,rfl⟩:=okWide_slice Tryz.underlying22 o1;obtain⟨B,B1,_⟩:=qpx Tryz.underlying22 Tryz.underlying5 cellsU8 bytesU8 h1 (qi2 hz (j:=1) rfl rfl);obtain rfl:=B1.length;obtain⟨a2,l2,c2,rfl⟩:=okWide_slice Tryz.underlying22 o2;obtain⟨Fl,B2,_⟩:=qpx Tryz.underlying22 Tryz.underlying5 cellsU8 bytesU8 h2 (qi2 hz (j:=2) rfl rfl);obtain rfl:=B2.length;obtain⟨x3,rfl,rfl,rfl,wx3⟩:=Go.ChangeMaps.open_string Tryz.underlying9 o3 h3;have hl3:=qo8 (qi2 hz (j:=3) rfl rfl);have hlow:=trip.qtz Tryz.underlying22 o2;have e3:x3=str x3.data.toList:=by cases x3;rfl
 rw[e3];exact (zal x0 a1 a2 c1 c2 B Fl x3.data.toList m W (.of_arg B1) (.of_arg B2) hlow (qan hl3 (by decide)) (qtw hL) hm).mono λe W2 h=>⟨h.1,qgd h.2⟩
theorem own:ownKnob Tryz.prog.godebug=none:=by kernel_rfl
theorem laidOut:laidOutB Tryz.prog=true:=by kernel_rfl
theorem lifted (os:Os) (started:os.Started) (H:Type) (enc:TypeId×Value→H) :
  ReturnsInHanded {} Tryz.checked os 4 .any (λw args=>(Rows.looseFilesSpec.pre enc Tryz.prog Tryz.f4 [] false w args∧laidMetH Tryz.prog Rows.looseFilesRow.laid w)∧sizedMet enc Tryz.prog Tryz.f4 (OpenSpec.ofChange Rows.looseFilesSpec) false w args) (Rows.looseFilesSpec.post enc Tryz.prog Tryz.f4 false true false false):=by
 refine qq5 (C:=Tryz.checked) (X:=λw _=>laidMetH Tryz.prog Rows.looseFilesRow.laid w) (λ_ _ _ hh h=>h.of_heap hh) own started (by kernel_rfl) Tryz.func4
  (ChangeSpec.witness_shaped (enc:=enc) (C:=Tryz.checked) (os:=os) (X:=λw _=>laidMetH Tryz.prog Rows.looseFilesRow.laid w) false (World.laidAll Tryz.prog os Rows.looseFilesRow.laid) #[.int .i64 0,.slice none 0 0,.slice none 0 0,.string ⟨#[]⟩] 8 (World.laidAll_os _ _ _)
   (World.shaped_of_ZipB (by kernel_rfl) (by kernel_rfl)) (by kernel_rfl) (by kernel_rfl) (by kernel_rfl)
   (by rw[MakeChecks.laidMetH_plain _ _ _ (by kernel_rfl)];exact laidMet_laidAll _ (by kernel_rfl) (by kernel_rfl))) ?_
 intro W base args ds gs before hval hW _ hsz hL hsh _;obtain⟨m,hm⟩:=qzw W hsh;have hW':=hW;obtain⟨p,q,hA0,hV,rfl,hfz,hnd⟩:=hW';have hA:DataW.TrodAll enc Tryz.prog W 0 (λ_=>true) true Tryz.f4.params.toList args.toList ds p:=hA0;rw[Tryz.params4]at hA hval;obtain⟨v0,vs0,d0,ds0,p0,q0,hargs,rfl,rfl,h0,r0⟩:=trodAll_cons hA;obtain⟨v1,vs1,d1,ds1,p1,q1,rfl,rfl,rfl,h1,r1⟩:=trodAll_cons r0;obtain⟨v2,vs2,d2,ds2,p2,q2,rfl,rfl,rfl,h2,r2⟩:=trodAll_cons r1;obtain⟨v3,vs3,d3,ds3,p3,q3,rfl,rfl,rfl,h3,r3⟩:=trodAll_cons r2;obtain⟨rfl,rfl,rfl⟩:=trodAll_nil r3;obtain rfl:args=#[v0,v1,v2,v3]:=by cases args;simp_all
 obtain⟨rfl,rfl⟩:=trodVars_none hV;have hz:(DataW.weightsEach Tryz.prog [3,22,22,9] [d0,d1,d2,d3]).all (·≤reachBytes)=true:=hsz;refine qpb (s:=Rows.looseFilesSpec) laidOut (by kernel_rfl) rfl rfl Tryz.underlying4 hW (λgs _ h2=>by subst h2;rfl) ?_;exact walk W v0 d0 p0 v1 d1 p1 v2 d2 p2 v3 d3 p3 (hval 0 3 v0 rfl rfl) (h0) (hval 1 22 v1 rfl rfl) (h1) (hval 2 22 v2 rfl rfl) (h2) (hval 3 9 v3 rfl rfl) (h3) hz hL m hm
theorem over:Rows.looseFilesRow.holds Tryz.pinned (OpenSpec.ofChange Rows.looseFilesSpec):=
 OpenClaim.holds_of_wide 4 Tryz.f4 rfl rfl rfl rfl rfl rfl rfl ⟨rfl,rfl,rfl,rfl,rfl⟩ rfl rfl rfl rfl rfl (by kernel_rfl) Tryz.func4 (by kernel_rfl)
  (of_decide_eq_true (by kernel_rfl)) (by unfold Func.isWrapper;first|(rw[if_pos (by decide +kernel)];kernel_rfl)|(rw[if_neg (by decide +kernel)];exact⟨rfl,rfl⟩))
  (λos started H enc _=>lifted os started H enc)
theorem proved:Rows.LooseFilesCardSaid:=
 Claim7.holds_tied_plain_at .later [] [.data,.data,.data,.data,.pinned] true (true, "8454ebb0ff436e9711591ab395a83e4322fd543669037fd21594c463a17f004b") true
  over (λ_ h=>by cases h) (by kernel_rfl) (λ_ h=>by cases h) looseFiles_row_tie rfl ⟨rfl,rfl⟩ (by kernel_rfl) rfl
  (λf fn hf hfn=>by
   obtain rfl:f=4:=qa2 ((show Tryz.prog.funcNamed "stemma/stemmalaw9.LooseFiles" = some 4 by kernel_rfl).symm.trans hf) |>.symm
   obtain rfl:fn=Tryz.f4:=(qa2 (Tryz.func4.symm.trans hfn)).symm
   exact⟨by kernel_rfl,λj t ht=>by
    rw[Tryz.params4]at ht
    have hm:t∈[3,22,22,9]:=by simpa using Array.mem_of_getElem? ht
    have hall:([3,22,22,9].all λu=>!Tryz.prog.wantsStandIn u)=true:=by kernel_rfl
    exact (show Tryz.prog.wantsStandIn t=false by simpa using List.all_eq_true.1 hall t hm)⟩)
  (by kernel_rfl)
end Go.Proofs.YtbabjlohkniciaaGreatDoor.looseFiles
