/-
  Texts of this proof, one behind the other: RsMade, WrRight, WrDel, WrOrd1, DeltaShelf, DeltaMakeLaw, DeltaMk.
-/
import Derived.Test.YtkmpfgpfbmeihaaGreatDoorS21
import Derived.Shelf.Bytes.SlIndexWhole
set_option maxHeartbeats 16000000
set_option maxRecDepth 100000
set_option linter.unusedVariables false
set_option linter.unusedSimpArgs false
namespace Go.Proofs.YtkmpfgpfbmeihaaGreatDoor.pk
open Go Go.RowKit lib bm
theorem zcb:(Tryz.prog.info? 34).map (λi=>(i.zero,i.size,i.bytes))=some (some (.agg #[.int .i64 0,.slice none 0 0,.string ⟨#[]⟩,.int .i64 0,.int .u32 0]),5,64):=by kernel_rfl
theorem qvx:(Tryz.prog.info? 100).map (λi=>(i.zero,i.size,i.bytes))=some (some (.agg #[.bool false,.int .i64 0,.int .i64 0,.nilIface]),4,40):=by kernel_rfl
theorem zfb (z:Array Value) (n j:Nat) (h:j<n):(madeCells z n)[j]?=some (z[j%z.size]!):=by rw[qb5 (by rw[size_madeCells];exact h)];simp[madeCells]
theorem qya (n:Nat) (h:n≤1000000):∃Z:Array Value,Z.size=n*5∧∀w:World,(Instr.makeSlice 27 (.int .i64 (n:Nat)) (.int .i64 (n:Nat))).run Tryz.prog w = .ok (.slice (some ⟨w.heap.size,0,none⟩) n n) (w.alloc (.cells Z 34)):=by obtain⟨i,hi,hz,hs,hb⟩:=info_parts zcb;refine⟨madeCells (Value.agg #[.int .i64 0,.slice none 0 0,.string ⟨#[]⟩,.int .i64 0,.int .u32 0]).cells (n*5),size_madeCells _ _,λw=>?_⟩;have:=run_make (P:=Tryz.prog) w 27 34 i _ Tryz.underlying27 hi hz .i64 .i64 (n:Nat) (n:Nat) (by omega) (Int.le_refl _) (by rw[hb];omega) (by omega);rw[hs,qdm]at this;exact this
theorem qst (n:Nat) (h:n≤1000000):∃Z:Array Value,Z.size=n*4∧(∀t,t<n→Z[t*4]?=some (.bool false)∧Z[t*4+1]?=some (.int .i64 0)∧Z[t*4+3]?=some .nilIface)∧(∀t,t<n→Z[t*4+2]?=some (.int .i64 0))∧∀w:World,(Instr.makeSlice 93 (.int .i64 (n:Nat)) (.int .i64 (n:Nat))).run Tryz.prog w = .ok (.slice (some ⟨w.heap.size,0,none⟩) n n) (w.alloc (.cells Z 100)):=by
 obtain⟨i,hi,hz,hs,hb⟩:=info_parts qvx;have key:∀t k:Nat,t<n→k<4→(madeCells (Value.agg #[.bool false,.int .i64 0,.int .i64 0,.nilIface]).cells (n*4))[t*4+k]?=some ((#[.bool false,.int .i64 0,.int .i64 0,.nilIface]:Array Value)[k]!):=λt k ht hk=>by
  rw[zfb _ _ _ (by omega)];have e:(t*4+k)%(Value.agg #[.bool false,.int .i64 0,.int .i64 0,.nilIface]).cells.size=k:=by show (t*4+k)%4=k;omega
  rw[e];rfl
 refine⟨madeCells (Value.agg #[.bool false,.int .i64 0,.int .i64 0,.nilIface]).cells (n*4),size_madeCells _ _,λt ht=>⟨?_,?_,?_⟩,λt ht=>?_,λw=>?_⟩
 ·have:=key t 0 ht (by decide);rw[qbn]at this;exact this
 ·exact key t 1 ht (by decide)
 ·exact key t 3 ht (by decide)
 ·exact key t 2 ht (by decide)
 ·have:=run_make (P:=Tryz.prog) w 93 100 i _ Tryz.underlying93 hi hz .i64 .i64 (n:Nat) (n:Nat) (by omega) (Int.le_refl _) (by rw[hb];omega) (by omega);rw[hs,qdm]at this;exact this
theorem made4 {w W:World} {o1 o2 o3 o4:Go.Obj} (hh:W.heap=(((w.heap.push o1).push o2).push o3).push o4) (h1:W.os=w.os) (h2:W.tape=w.tape) (h3:W.output=w.output) :
  W.heap[w.heap.size]?=some o1∧W.heap[w.heap.size+1]?=some o2∧W.heap[w.heap.size+1+1]?=some o3∧W.heap[w.heap.size+1+1+1]?=some o4∧Fr [] w W:=by
 refine⟨?_,?_,?_,?_,h1,h2,h3,?_,λk hk _=>?_⟩
 ·rw[hh];simp only[qwi,Array.size_push];rw[if_neg (by omega),if_neg (by omega),if_neg (by omega),if_pos trivial]
 ·rw[hh];simp only[qwi,Array.size_push];rw[if_neg (by omega),if_neg (by omega),if_pos trivial]
 ·rw[hh];simp only[qwi,Array.size_push];rw[if_neg (by omega),if_pos trivial]
 ·rw[hh];simp only[qwi,Array.size_push];rw[if_pos trivial]
 ·rw[hh];simp;omega
 ·rw[hh];simp only[qwi,Array.size_push];rw[if_neg (by omega),if_neg (by omega),if_neg (by omega),if_neg (by omega)]
theorem made4a (w:World) (o1 o2 o3 o4:Go.Obj):((((w.alloc o1).alloc o2).alloc o3).alloc o4).drew.heap[w.heap.size]?=some o1:=(made4 (w:=w) (W:=((((w.alloc o1).alloc o2).alloc o3).alloc o4).drew) rfl rfl rfl rfl).1
theorem made4b (w:World) (o1 o2 o3 o4:Go.Obj):((((w.alloc o1).alloc o2).alloc o3).alloc o4).drew.heap[w.heap.size+1]?=some o2:=(made4 (w:=w) (W:=((((w.alloc o1).alloc o2).alloc o3).alloc o4).drew) rfl rfl rfl rfl).2.1
theorem made4c (w:World) (o1 o2 o3 o4:Go.Obj):((((w.alloc o1).alloc o2).alloc o3).alloc o4).drew.heap[w.heap.size+1+1]?=some o3:=(made4 (w:=w) (W:=((((w.alloc o1).alloc o2).alloc o3).alloc o4).drew) rfl rfl rfl rfl).2.2.1
theorem made4d (w:World) (o1 o2 o3 o4:Go.Obj):((((w.alloc o1).alloc o2).alloc o3).alloc o4).drew.heap[w.heap.size+1+1+1]?=some o4:=(made4 (w:=w) (W:=((((w.alloc o1).alloc o2).alloc o3).alloc o4).drew) rfl rfl rfl rfl).2.2.2.1
open huf
theorem qoa (oms:List OM):(oms.flatMap oL).length=oms.length*5:=qln oL 5 (λ_=>rfl) oms
theorem qvk (oms:List OM):∀u∈oms.flatMap oL,u.oneCell'=true:=by intro u hu;obtain⟨m,_,h⟩:=List.mem_flatMap.1 hu;exact zds m u h
structure ORow (w:World) (a:Option Addr) (c:Nat) (oms:List OM):Prop where
 cs:Cs w a (oms.flatMap oL)
 le:oms.length≤c
 max:c≤maxLen
 nil:a=none→c=0
 rd:∀m∈oms,lib.Rd w m.2.1 m.2.2 m.1.body
theorem ORow.fr {w w':World} {a:Option Addr} {c:Nat} {oms:List OM} (h:ORow w a c oms) (f:Fr [] w w'):ORow w' a c oms:=⟨h.cs.fr f (by simp),h.le,h.max,h.nil,λm hm=>(h.rd m hm).fr f⟩
theorem ORow.cell {w:World} {a:Option Addr} {c:Nat} {oms:List OM} (h:ORow w a c oms) {i:Nat} {m:OM} (hi:oms[i]?=some m):∃g o,a=some ⟨g,o,none⟩∧∀j v,(objV m.1 m.2.1 m.2.2)[j]?=some v→w.cell? ⟨g,o+i*5+j,none⟩=some v:=by have hl:=(qa9.1 hi).1;obtain⟨g,o,ha,hc⟩:=h.cs.at (by rw[qoa];omega);refine⟨g,o,ha,λj v hv=>?_⟩;have hj:j<5:=(qd0.1 hv).1;rw[qcb];refine hc _ v ?_;rw[qih oL 5 (λ_=>rfl) oms i m j hi hj];unfold oL;rw[qbz];exact hv
def OkO (o:Obj):Prop:=obj.kname o.kind≠[]∧o.body.length≤65536∧oid o.kind o.body=o.id
theorem zfw (ao:Option Addr) (cap:Nat) (oms:List OM) (w:World) (h:ORow w ao cap oms) (hlim:oms.length≤1000000) :
  Calls Tryz.prog 60 #[.slice ao oms.length cap] w λe w'=>∃a2 c2,e = .returned (.slice a2 oms.length c2)∧Made w w' 34 5 a2 oms.length c2 (oms.flatMap oL):=by
 have qT:∀(w:World) (a:Option Addr) (n c n' c':Nat),(binOp .eql 27 (.slice a n c) (.slice none n' c')).run Tryz.prog w = .ok (.bool a.isNone) w:=λw a n c n' c'=>Lib.run_eql_slice_nil w _ _ a n c n' c' Tryz.underlying27
 have hcs:=h.cs;have hle:=h.le;have hnone:=h.nil;cases ao with
 | none=>
  have h0:=hnone rfl;obtain rfl:oms=[]:=qbv (by omega);go_enter Tryz.func60,Tryz.ntmps60;go_wp2;go_ret;exact⟨none,0,rfl,Made.none _ _ _⟩
 | some a=>go_enter Tryz.func60,Tryz.ntmps60;go_wp2_with (refine qba qw2 rfl _ _ rfl (.slice (some ⟨w.heap.size,0,none⟩) 0 0) 0 [] [w.heap.size] rfl rfl ⟨rfl,.inr ⟨w.heap.size,0,#[],rfl,qa5 _,qay _ _,qae _,qa5 _,rfl,rfl⟩⟩ (some a) oms.length cap (oms.flatMap oL) rfl hle hnone (hcs.fr ((Fr.refl [] w).alloc _) (by simp)) (qoa oms) (qvk oms) (by omega) (by unfold maxLen;omega) ?_;intro ao1 cap1 w1 A1;simp only[qbg,qb4]at A1);go_ret;have fr2:Fr [] w w1:=((Fr.refl [] w).alloc _).step A1.fr (by simp);refine⟨ao1,cap1,rfl,A1.own,fr2,λx hx=>?_,A1.le,A1.max,A1.nil⟩;have:=A1.at_ x hx;simp at this;omega
theorem qr9 (m:OM) (w:World) (h:OkO m.1) (hr:lib.Rd w m.2.1 m.2.2 m.1.body) (hp:obj.Pw w) :
  Calls Tryz.prog 61 #[.agg (objV m.1 m.2.1 m.2.2)] w λe w'=>e = .returned (.bool false)∧Fr [] w w':=by
 obtain⟨⟨kd,bs,id,at_,crc⟩,ba,bc⟩:=m;simp only at h hr;obtain⟨h1,h2,h3⟩:=h;simp only at h1 h2 h3;simp only[objV];have hid:=λw' (f:Fr [] w w')=>obj.qyy kd ba bc bs w' (hr.fr f) (by omega) (hp.fr f)
 rw[h3]at hid;obtain⟨bl,hbl⟩:=zex bs.length;rw[<-hbl]at hid h2 ⊢;obtain⟨si,hsi⟩:=zex (str id);rw[<-hsi]at hid ⊢;obtain⟨sn,hsn⟩:=zex (str (obj.kname kd));have hnm:=λw'=>obj.qt7 kd w'
 rw[<-hsn]at hnm;have hne:sn.toList≠[]:=by rw[hsn,str_toList];exact h1
 have gn:(sn.toList==[])=false:=by simpa using hne
 have gn2:(sn.toList==(⟨#[]⟩:ByteArray).toList)=false:=by rw[show (⟨#[]⟩:ByteArray).toList=[] from by rw[ByteArray.toList_eq]];exact gn
 have gn3:sn.toList.isEmpty=false:=by simpa using hne
 have gl:decide ((65536:Int)<(bl:Int))=false:=by simp;omega
 have H:=zhd2 hid hnm;clear hid hnm h1 h3 hsn hsi hbl hr hp hne;go_enter Tryz.func61,Tryz.ntmps61;go_upto_region 1 with fail;generalize hw1:World.alloc _ _=w1;obtain⟨X,hX⟩:=zex w.heap.size;rw[<-hX];have hx1:w1.heap[X]?=some (.cells #[.int .i64 kd,.slice ba bl bc,.string si,.int .i64 at_,.int .u32 crc] 34 (0,0)):=by rw[<-hw1,hX];exact qay w _
 have f1:Fr [] w w1:=by rw[<-hw1];exact (Fr.refl [] w).alloc _
 have H1:=zhd2 hx1 f1;clear hw1 hX f1;have x0:=cell_of hx1 0;have x1:=cell_of hx1 1;have x2:=cell_of hx1 2;simp only[qag,qac,qaf]at x0 x1 x2;clear hx1;have y0:=λx=>(qcm [] w1.drew x).cell (show w1.drew.cell? _=_ from x0) (by simp)
 refine qb3 21 [(false,0),(false,1),(true,2),(false,3),(false,4),(false,5),(false,6),(false,7),(false,8),(false,9),(false,10),(false,11),(false,12),(false,13),(false,14),(false,16),(false,17),(true,15),(false,18),(false,19),(false,20)] [] (by kernel_rfl) (by kernel_rfl) (λ_ _ d _ _ h=>by cases d<;>exact h) ?_;simp only[qak,qam,qaz,qa0,qad,qaj,qbk];refine qb0 2 rfl ?_;simp only[qah,qan,qad,qaj,qak,qam];repeat (go_big_quiet_step (fail))
 refine wpQuiet_nil ?_;clear y0;refine qb6 rfl ?_;intro XX hXX;go_wp2_with (go_at_call 62;refine (H.l1 _).mono ?_;rintro e w2 ⟨rfl,f2⟩);refine hXX.out _ _ f2 ?_;clear hXX XX;have H2:=zhd ((Fr.drew1 [] w1).trans f2);clear f2;have y0:=λx=>(qcm [] w2 x).cell (H2.out.cell x0 (by simp)) (by simp)
 have y1:=λx=>(qcm [] w2 x).cell (H2.out.cell x1 (by simp)) (by simp)
 have y2:=λx=>(qcm [] w2 x).cell (H2.out.cell x2 (by simp)) (by simp)
 refine qb0 14 rfl ?_;simp only[qah,qan,qad,qaj,qak,qam];repeat (go_big_quiet_step (fail))
 refine wpQuiet_nil ?_;clear y0 y1 y2 x0 x1 x2;refine qb6 rfl ?_;intro XX hXX;go_wp2_with (go_at_call 63;refine (H.o0 _ (H1.l1.trans H2.out)).mono ?_;rintro e w3 ⟨rfl,f3⟩);refine hXX.out _ _ f3 ?_;clear hXX XX;have H3:=zhd f3;clear f3;refine qb0 3 rfl ?_;simp only[qah,qan,qad,qaj,qak,qam];repeat (go_big_quiet_step (fail))
 refine wpQuiet_nil ?_;refine qcq ?_;go_wp2;go_ret;exact⟨rfl,(H1.l1.trans H2.out).trans H3.out⟩
theorem zfh (fid:FuncId) (cv:Array Value) (eg:∀args w,(callFunc fid args).run Tryz.prog w = .ok (.enter fid args) w) (a:Option Addr) (c:Nat) (oms:List OM) (w:World) (h:ORow w a c oms) (hl:oms.length≤1000000)
  (hcl:∀m∈oms,∀w',Fr [] w w'→Calls Tryz.prog fid (#[.agg (objV m.1 m.2.1 m.2.2)]++cv) w' λe w2=>e = .returned (.bool false)∧Fr [] w' w2) :
  Calls Tryz.prog 64 #[.slice a oms.length c,.func (.func fid) #[] cv] w λe w'=>e = .returned (.int .i64 (-1))∧Fr [] w w':=by
 obtain⟨n,hn⟩:=zex oms.length;rw[<-hn]at hl ⊢;have H:=zhd3 h hn hcl;clear h hn hcl;go_enter Tryz.func64,Tryz.ntmps64;go_wp2;go_loopg [8] n (λk s8 wr=>∃i:Nat,s8 = .int .i64 (i:Nat)∧i+k=n∧Fr [] w wr);case atStart=>exact⟨0,rfl,by omega,Fr.refl _ _⟩
 case round=>
  obtain⟨i,rfl,hik,hf⟩:=hrel;by_cases hi:i<n
  ·obtain⟨k,rfl⟩:∃k,gk=k+1:=⟨gk-1,by omega⟩;obtain⟨m,hm⟩:∃m,oms[i]?=some m:=⟨oms[i]'(by rw[<-H.out.2.1];omega),qai _⟩;obtain⟨g,o,rfl,hc⟩:=(H.out.1.fr hf).cell hm;have hcall:=H.out.2.2 m (qa8 hm) wr hf;obtain⟨⟨kd,bs,id,at_,crc⟩,ba,bc⟩:=m;simp only[objV]at hcall;have c0:=hc 0 (.int .i64 kd) rfl;have c1:=hc 1 (.slice ba bs.length bc) rfl;have c2:=hc 2 (.string (str id)) rfl;have c3:=hc 3 (.int .i64 at_) rfl;have c4:=hc 4 (.int .u32 crc) rfl;rw[qbn]at c0;have HC:=zhd2 hcall hf;clear hcall hf hc hm;go_wp2;refine HC.o0.mono ?_;rintro e w2 ⟨rfl,f2⟩;have H2:=zhd f2;clear f2 c0 c1 c2 c3 c4 eg;go_wp2;go_roundg k;case measure=>omega
   case rel=>exact⟨i+1,rfl,by omega,HC.l1.trans H2.out⟩
  ·obtain rfl:i=n:=by omega
   have HF:=zhd hf;clear hf;go_wp2;go_ret;exact⟨rfl,HF.out⟩
theorem qus (fid:FuncId) (cv:Array Value) (eg:∀args w,(callFunc fid args).run Tryz.prog w = .ok (.enter fid args) w) (a:Option Addr) (c:Nat) (oms:List OM) (w:World) (h:ORow w a c oms) (hl:oms.length≤1000000)
  (hcl:∀m∈oms,∀w',Fr [] w w'→Calls Tryz.prog fid (#[.agg (objV m.1 m.2.1 m.2.2)]++cv) w' λe w2=>e = .returned (.bool false)∧Fr [] w' w2) :
  Calls Tryz.prog 32 #[.slice a oms.length c,.func (.func fid) #[] cv] w λe w'=>e = .returned (.slice a oms.length c)∧Fr [] w w':=by
 have hi:=zfh fid cv eg a c oms w h hl hcl;clear h hl hcl eg;go_enter Tryz.func32,Tryz.ntmps32;go_wp2_with (go_at_call 64;refine hi.mono ?_;rintro e w2 ⟨rfl,f2⟩;have H2:=zhd f2;clear f2);go_ret;exact⟨rfl,H2.out⟩
theorem qn5 (a:Option Addr) (c:Nat) (oms:List OM) (w:World) (h:ORow w a c oms) (hl:oms.length≤1000000) (hg:∀m∈oms,OkO m.1) (hp:obj.Pw w) :
  Calls Tryz.prog 31 #[.slice a oms.length c] w λe w'=>∃a2 c2,e = .returned (.slice a2 oms.length c2)∧Made w w' 34 5 a2 oms.length c2 (oms.flatMap oL):=by
 have hc:=zfw a c oms w h hl;have hdel:∀a2 c2 w2,Made w w2 34 5 a2 oms.length c2 (oms.flatMap oL)→Calls Tryz.prog 32 #[.slice a2 oms.length c2,.func (.func 61) #[] #[]] w2 λe w'=>e = .returned (.slice a2 oms.length c2)∧Fr [] w2 w':=λa2 c2 w2 M=>
  qus 61 #[] (λ_ _=>by kernel_rfl) a2 c2 oms w2 ⟨qhe M.own,M.le,M.max,M.nil,λm hm=>(h.rd m hm).fr M.fr⟩ hl
   (λm hm w' f=>qr9 m w' (hg m hm) ((h.rd m hm).fr (M.fr.trans f)) (hp.fr (M.fr.trans f)))
 obtain⟨n,hn⟩:=zex oms.length;rw[<-hn]at hc hdel ⊢;have H:=zhd2 hc hdel;clear hc hdel h hl hg hp hn;go_enter Tryz.func31,Tryz.ntmps31;go_wp2_with (first
  | (go_at_call 60;refine H.o0.mono ?_;rintro e w2 ⟨a2,c2,rfl,M⟩;have H2:=zhd M;clear M)
  | (go_at_call 32;refine (H.l1 _ _ _ H2.out).mono ?_;rintro e w3 ⟨rfl,f3⟩;have H3:=zhd f3;clear f3))
 go_ret;exact⟨a2,c2,rfl,H2.out.fr2 H3.out⟩
set_option maxRecDepth 100000
theorem qvw (a:Option Addr) (c:Nat) (v:Value) (w:World):Calls Tryz.prog 107 #[.slice a 1 c,.int .i64 0,.int .i64 1,v] w λe w'=>e = .returned (.tuple #[])∧w'=w:=by
 go_enter Tryz.func107,Tryz.ntmps107;go_wp2;go_loopg [8] 0 (λk s8 wr=>s8 = .int .i64 1∧wr=w);case atStart=>exact⟨rfl,rfl⟩
 case round=>
 obtain⟨rfl,rfl⟩:=hrel;go_wp2;exact bodyPost_end (results_none rfl _ _ _) rfl ⟨rfl,rfl⟩
theorem qvb (a:Option Addr) (c:Nat) (v:Value) (w:World):Calls Tryz.prog 70 #[.slice a 1 c,.int .i64 1,v] w λe w'=>e = .returned (.tuple #[])∧w'=w:=by
 go_enter Tryz.func70,Tryz.ntmps70;go_wp2;go_loopg [7,8] 0 (λk s7 s8 wr=>s7 = .int .i64 0∧s8 = .int .i64 20∧wr=w);case atStart=>exact⟨rfl,rfl,rfl⟩
 case round=>
 obtain⟨rfl,rfl,rfl⟩:=hrel;go_wp2_with (go_at_call 107;refine (qvw _ _ _ _).mono ?_;rintro e w2 ⟨rfl,hw⟩;obtain rfl:=hw.symm);go_loopg [6] 0 (λk s6 wr2=>s6 = .int .i64 20∧wr2=wr);case atStart=>exact⟨rfl,rfl⟩
 case round=>
 obtain⟨rfl,rfl⟩:=hrel;go_wp2;exact bodyPost_end (results_none rfl _ _ _) rfl ⟨rfl,rfl⟩
theorem za9 (a:Option Addr) (c:Nat) (v:Value) (w:World):Calls Tryz.prog 38 #[.slice a 1 c,v] w λe w'=>e = .returned (.tuple #[])∧w'=w:=by go_enter Tryz.func38,Tryz.ntmps38;go_wp2_with (go_at_call 70;refine (qvb _ _ _ _).mono ?_;rintro e w2 ⟨rfl,hw⟩;obtain rfl:=hw.symm);exact bodyPost_end (results_none rfl _ _ _) rfl ⟨rfl,rfl⟩
theorem zg2 (a:Option Addr) (n c:Nat) (w:World) (hle:n≤c) (hmax:c≤maxLen):Calls Tryz.prog 42 #[.slice a n c] w λe w'=>e = .returned (.slice a n n)∧w'=w:=by
 go_enter Tryz.func42,Tryz.ntmps42;go_wp2;all_goals go_ret
 all_goals exact⟨by first|rfl|simp,rfl⟩
theorem qo0:Tryz.prog.underlying 75=some (.map 9 4):=by kernel_rfl
theorem qwk (w:World):(zeroValue 4).run Tryz.prog w = .ok (.bool false) w:=by kernel_rfl
abbrev Seen (w:World) (b n:Nat) (D:DataW Unit):Prop:=w.ownsMap Tryz.prog 9 (plainElem Tryz.prog 4) b n D
theorem qnt {v:Value} {z:DataW Unit×List MemPlace} (h:plainElem Tryz.prog 4 v=some z):∃b,v = .bool b∧z=(.lit (.bool b),[]):=by unfold plainElem at h;rw[show Tryz.prog.underlying 4=some .bool from Tryz.underlying4]at h;cases v<;>simp at h;exact⟨_,rfl,h.symm⟩
theorem qsx (id:List UInt8) (h:id.length≤1000000):keyOf Tryz.prog 9 (.string (str id))=some (.string id):=by have:=WideMaps.keyOf_string_mk (P:=Tryz.prog) Tryz.underlying9 (s:=str id) (by rw[qtr];unfold maxLen;omega);exact this
theorem Seen.not {w:World} {b n:Nat} {D:DataW Unit} (h:Seen w b n D) (id:List UInt8) (hid:id.length≤1000000) (hn:Maps.has D (.string id)=false):(Instr.lookup 75 (.map (some b)) (.string (str id)) false).run Tryz.prog w = .ok (.bool false) w:=by obtain⟨v,ps,hrun,hv⟩:=h.lookup qek qo0 (qwk w) (plainElem_bool Tryz.underlying4 false) (qsx id hid);obtain⟨c,rfl,hc⟩:=qnt hv;rw[Maps.atKey_of_not_has hn]at hc;simp only[qa4,DataW.lit.injEq,Lit.bool.injEq]at hc;have hcb:c=false:=hc.1.symm;subst hcb;exact hrun
theorem qqk (w:World):Seen (w.alloc (.map #[] 0)) w.heap.size 0 (.map []):=World.ownsMap_made w _ _ _
theorem qxw (a:Option Addr) (c:Nat) (m:OM) (w:World) (h:ORow w a c [m]) (hl:m.1.body.length≤65536) (hid:m.1.id.length≤1000000) :
  Calls Tryz.prog 17 #[.slice a 1 c] w λe w'=>∃a2 b2,e = .returned (.slice a2 1 1)∧ORow w' a2 1 [(m.1,b2,m.1.body.length)]∧(∀y∈blk a2,w.heap.size≤y∧y<w'.heap.size)∧(∀y∈blk b2,w.heap.size≤y∧y<w'.heap.size)∧Fr [] w w':=by
 have hmm:=λw'=>run_makeMap (P:=Tryz.prog) 75 w'
 obtain⟨g,o,rfl,hc⟩:=h.cell (i:=0) rfl;have hrd:=h.rd m (by simp);obtain⟨⟨kd,bs,id,at_,crc⟩,ba,bc⟩:=m;simp only at hrd hl hid;have c0:=hc 0 (.int .i64 kd) rfl;have c1:=hc 1 (.slice ba bs.length bc) rfl;have c2:=hc 2 (.string (str id)) rfl;have c3:=hc 3 (.int .i64 at_) rfl;have c4:=hc 4 (.int .u32 crc) rfl;simp only[qj3,qbn]at c0 c1 c2 c3 c4;obtain⟨bl,hbl⟩:=zex bs.length;rw[<-hbl]at c1;have H:=zhd4 hrd hl hid hbl;clear hrd hl hid hbl hc h;go_enter Tryz.func17,Tryz.ntmps17;go_upto_block 0 with fail;generalize hw1:World.alloc _ _=w1;obtain⟨B,hB⟩:=zex (w.heap.size+1);rw[<-hB];have hs1:Seen w1 B 0 (.map []):=by rw[<-hw1,hB];have:=qqk (w.alloc (.cells #[.func (.func 36) #[] #[]] 78));rw[qa1]at this;exact this
 have f1:Fr [] w w1:=by rw[<-hw1];exact ((Fr.refl [] w).alloc _).alloc _
 have H1:=zhd3 hs1 f1 hB;clear hs1 f1 hw1 hB hmm;go_wp2;go_loopg [5,11] 1 (λk s5 s11 wr=>(k=1∧s5 = .slice none 0 0∧s11 = .int .i64 0∧wr=w1)∨(k=0∧s11 = .int .i64 1∧∃a2 c2 b2,s5 = .slice a2 1 c2∧ORow wr a2 c2 [(⟨kd,bs,id,at_,crc⟩,b2,bl)]∧(∀y∈blk a2,w.heap.size≤y∧y<wr.heap.size)∧(∀y∈blk b2,w.heap.size≤y∧y<wr.heap.size)∧Fr [] w wr));case atStart=>exact .inl ⟨rfl,rfl,rfl,rfl⟩
 case round=>
  rcases hrel with⟨rfl,rfl,rfl,hwr⟩|⟨rfl,rfl,a2,c2,b2,rfl,hO,ha2,hb2,hf⟩
  ·subst hwr;have c0:=H1.o1.cell c0 (by simp);have c1:=H1.o1.cell c1 (by simp);have c2:=H1.o1.cell c2 (by simp);have c3:=H1.o1.cell c3 (by simp);have c4:=H1.o1.cell c4 (by simp);go_upto_region 7 with (guard_target =~ wpList _ _ _ (⟨_,Op.store _ _ _,_,_,_,_⟩::_) _ _;refine wpList_store_row rfl 34 (.tmp 7) (.tmp 14) rfl wr.heap.size #[.int .i64 kd,.slice ba bl bc,.string (str id),.int .i64 at_,.int .u32 crc] rfl rfl 34 _ (qay _ _) infoObj rfl (by kernel_rfl) ?_);clear c0 c1 c2 c3 c4;simp only[Act.put];generalize hw2:World.setRow _ _ _=w2;obtain⟨X,hX⟩:=zex wr.heap.size;rw[<-hX]at hw2 ⊢;have hx2:w2.heap[X]?=some (.cells #[.int .i64 kd,.slice ba bl bc,.string (str id),.int .i64 at_,.int .u32 crc] 34 (0,0)):=by rw[<-hw2,hX];exact setRow_heap _ _ _ _ _ _ (qay _ _)
   have f2:Fr [] wr w2:=by rw[<-hw2,hX];exact ((Fr.refl [] wr).alloc _).setRow (.inr (qae _)) _
   have hs2:Seen w2 B 0 (.map []):=qeg H1.o0 f2 (by simp);have hlk:=hs2.not id H.o2 rfl;have hXw:w.heap.size≤X:=by rw[hX];exact H1.o1.size
   have hXB:X≠B:=by have h1:=hs2.lt;obtain⟨es,c,hm⟩:=(show MapAt w2 B from by obtain⟨es,clock,h1,_⟩:=hs2;exact⟨es,clock,h1⟩);rintro rfl;rw[hm]at hx2;cases hx2
   have x1:=cell_of hx2 1;have x2:=cell_of hx2 2;simp only[qag,qac,qaf]at x1 x2;have H2:=zhd5 hx2 f2 hs2 hXw hXB;clear hx2 f2 hs2 hXw hXB hw2 hX;go_upto_region 9 with (at_mapUpdate;refine wpList_mapUpdate_own _ rfl _ _ _ 75 rfl 9 4 qek qo0 (plainElem Tryz.prog 4) B 0 (.map []) rfl H2.o2 (by decide) _ _ (.string id) rfl rfl (qsx id H.o2) (.lit (.bool true)) [] (plainElem_bool Tryz.underlying4 true) ?_;intro w3 hown3 hg3;have H3:=zhd ((Fr.refl [B] w2).grown hg3 (λk e=>.inl (by simp only[qaw]at e;simp[e])));clear hown3 hg3);clear hlk x2;have hx3:=H3.out.blk H2.o0 (by simp;exact H2.l4);have x1:=H3.out.cell x1 (by simp;exact H2.l4);have f13:Fr [] w w3:=(H1.o1.trans H2.o1).step H3.out (λy hy=>by simp at hy;right;rw[hy,H1.l2];omega);have hcl:=qzy ba bc bs w3 (H.o0.fr f13) (by have:=H.o1;omega);unfold Copied at hcl;rw[<-H.l3]at hcl;have HC:=zhd3 hcl hx3 f13;clear hcl hx3 f13;have z1:=λwz (f:Fr [] w3 wz)=>f.blk HC.o1 (by simp)
   go_upto_region 10 with (first
    | (go_at_call 37;refine HC.o0.mono ?_;rintro e w4 ⟨b3,c3,rfl,r3,l3,m3,n3,f4⟩;have x1:=f4.cell x1 (by simp);have z4:=qau (f4.blk HC.o1 (by simp)) 1;have H4:=zhd5 r3 n3 f4 l3 m3;clear r3 n3 f4 l3 m3)
    | (go_at_call 29;refine (qrn b3 bl c3 _ H4.o3 H4.l4).mono ?_;rintro e w5 ⟨rfl,hw⟩;obtain rfl:=hw.symm))
   clear z4 x1 z1;generalize hw5:World.setCell _ _ _=w5;have hx4:=H4.o2.blk HC.o1 (by simp);have hx5:w5.heap[X]?=some (.cells #[.int .i64 kd,.slice b3 bl bl,.string (str id),.int .i64 at_,.int .u32 crc] 34 (0,0)):=by rw[<-hw5];exact qax hx4 _
   have f5:Fr [X] w4 w5:=by rw[<-hw5];exact (Fr.refl [X] w4).setCell (by simp) _
   have fw5:Fr [] w w5:=(HC.l2.trans H4.o2).step f5 (λy hy=>by have:=H2.o3;simp at hy;right;omega);have hb3:∀y∈blk b3,w.heap.size≤y∧y<w5.heap.size∧y≠X:=λy hy=>by have h1:=(H4.o1 y hy).1;have h2:=(H4.o1 y hy).2;have h3:=HC.l2.size;have h4:=lt_of_block HC.o1;have h5:=f5.size;exact⟨by omega,by omega,by omega⟩
   have hr5:lib.Rd w5 b3 bl bs:=by have h1:=H4.o0;have h2:=h1.frS f5 (λy hy=>by simp;exact (hb3 y hy).2.2);exact⟨h2.cs,by rw[H.l3];exact qae _,qar H4.o3 H4.l4,λh=>by have:=h2.nil h;have:=H4.o3;omega⟩
   have hcA:Cs (w5.alloc (.cells #[.int .i64 kd,.slice b3 bl bl,.string (str id),.int .i64 at_,.int .u32 crc] 34)) (some ⟨w5.heap.size,0,none⟩) (oL (⟨kd,bs,id,at_,crc⟩,b3,bl)):=
    .inr ⟨w5.heap.size,0,rfl,λj u hj=>by
     rw[cell_of (qay w5 _),qbg,<-qbz]
     unfold oL objV at hj
     rw[<-H.l3]at hj
     exact hj⟩
   have H5:=zhd5 hx5 fw5 hb3 hr5 hcA;clear hx4 hx5 f5 fw5 hb3 hr5 hcA hw5;go_wp2_with (first
    | (guard_target =~ wpList _ _ _ (⟨_,Op.load _ _,_,_,_,_⟩::_) _ _;refine wpList_load_row rfl 34 (.tmp 7) rfl X rfl 34 #[.int .i64 kd,.slice b3 bl bl,.string (str id),.int .i64 at_,.int .u32 crc] (0,0) _ H5.out.1 Tryz.underlying34 rfl infoObj ?_)
    | (guard_target =~ wpList _ _ _ (⟨_,Op.call _,_,_,_,_⟩::_) _ _;refine qba qw2 rfl _ _ rfl (.slice none 0 0) 0 [] [] rfl rfl (qch _ _ _ _) (some ⟨w5.heap.size,0,none⟩) 1 1 (oL (⟨kd,bs,id,at_,crc⟩,b3,bl)) rfl (by decide) (by simp) H5.out.2.2.2.2 rfl (zds _) (by omega) (by unfold maxLen;omega) ?_;intro a2 c2 w6 A1;have HA:=zhd A1;clear A1))
   go_roundg 0;case measure=>omega
   case rel=>
    obtain⟨hx5,fw5,hb3,hr5,hcA⟩:=H5.out;have A1:=HA.out;have f0:Fr [] w5 (w5.alloc (.cells #[.int .i64 kd,.slice b3 bl bl,.string (str id),.int .i64 at_,.int .u32 crc] 34)):=(Fr.refl [] w5).alloc _;have f6:Fr [] w5 w6:=f0.step A1.fr (by simp);simp only[qbg,qb4]at A1;refine .inr ⟨rfl,rfl,a2,c2,b3,rfl,⟨?_,A1.le,A1.max,A1.nil,λm' hm'=>?_⟩,λy hy=>⟨?_,A1.lt y hy⟩,λy hy=>⟨(hb3 y hy).1,?_⟩,fw5.trans f6⟩
    ·have:=qhe A1.own;simpa using this
    ·simp only[qa2]at hm';subst hm';exact hr5.fr f6
    ·have h1:=A1.at_ y hy;simp at h1;have:=fw5.size;omega
    ·have:=(hb3 y hy).2.1;have:=f6.size;omega
  ·have HF:=zhd4 hO ha2 hb2 hf;clear hO ha2 hb2 hf;have hle:=HF.out.1.le;have hmax:=HF.out.1.max;simp only[qao,qbi]at hle;go_wp2_with (first
    | (go_at_call 38;refine (za9 _ _ _ _).mono ?_;rintro e w5 ⟨rfl,hw⟩;obtain rfl:=hw.symm)
    | (go_at_call 42;refine (zg2 _ _ _ _ hle hmax).mono ?_;rintro e w6 ⟨rfl,hw⟩;obtain rfl:=hw.symm))
   go_ret;obtain⟨hO,ha2,hb2,hf⟩:=HF.out;have hbl:=H.l3;refine⟨a2,b2,rfl,⟨?_,qae _,by decide,λh=>?_,?_⟩,ha2,hb2,hf⟩
   ·have:=hO.cs;simp only[<-hbl];exact this
   ·have:=hO.nil h;omega
   ·intro m' hm';have:=hO.rd _ (qa2.2 rfl);simp only[qa2]at hm';subst hm';simp only[<-hbl];exact this
end Go.Proofs.YtkmpfgpfbmeihaaGreatDoor.pk
namespace Go.Proofs
open Go.Shelf
def Tryz.lays185_ren:Go.Shelf.Ren:=⟨fun|185=>98|187=>120|115=>121|253=>122|224=>123|254=>124|255=>150|291=>151|n=>n,fun|37=>23|3=>3|4=>4|0=>0|5=>5|46=>67|9=>9|146=>235|51=>32|n=>n,fun|1=>0|n=>n⟩
theorem Tryz.lays185:Go.Proofs.Lays.n185 Tryz.prog Tryz.lays185_ren:={
 mixed:=by kernel_rfl
 f115:=Tryz.func121.trans (congrArg some (by kernel_rfl))
 f185:=Tryz.func98.trans (congrArg some (by kernel_rfl))
 f187:=Tryz.func120.trans (congrArg some (by kernel_rfl))
 f224:=Tryz.func123.trans (congrArg some (by kernel_rfl))
 f253:=Tryz.func122.trans (congrArg some (by kernel_rfl))
 f254:=Tryz.func124.trans (congrArg some (by kernel_rfl))
 f255:=Tryz.func150.trans (congrArg some (by kernel_rfl))
 f291:=Tryz.func151.trans (congrArg some (by kernel_rfl))
 t0:=Tryz.underlying0
 a0:=Tryz.isAgg0
 z0:=Tryz.sizeOf0
 v0:=Tryz.zeroValue0
 t3:=Tryz.underlying3
 a3:=Tryz.isAgg3
 z3:=Tryz.sizeOf3
 v3:=Tryz.zeroValue3
 t4:=Tryz.underlying4
 a4:=Tryz.isAgg4
 z4:=Tryz.sizeOf4
 v4:=Tryz.zeroValue4
 t5:=Tryz.underlying5
 a5:=Tryz.isAgg5
 z5:=Tryz.sizeOf5
 v5:=Tryz.zeroValue5
 t9:=Tryz.underlying9
 a9:=Tryz.isAgg9
 z9:=Tryz.sizeOf9
 v9:=Tryz.zeroValue9
 t37:=Tryz.underlying23
 a37:=Tryz.isAgg23
 z37:=Tryz.sizeOf23
 v37:=Tryz.zeroValue23
 t46:=Tryz.underlying67
 a46:=Tryz.isAgg67
 z46:=Tryz.sizeOf67
 v46:=Tryz.zeroValue67
 t51:=Tryz.underlying32
 a51:=Tryz.isAgg32
 z51:=Tryz.sizeOf32
 v51:=Tryz.zeroValue32
 t146:=Tryz.underlying235
 a146:=Tryz.isAgg235
 z146:=Tryz.sizeOf235
 v146:=Tryz.zeroValue235
 g1:=by kernel_rfl }
open Go.RowKit Go.Lib in
theorem Tryz.bytes_Index_none (p q:Option Addr) (n c d:Nat) (w:World) :
  Calls Tryz.prog 98 #[.slice p n c,.slice q 0 d] w λe w'=>e = .returned (.int .i64 0)∧w'=w:=Any.bytes_Index_none Tryz.lays185 p q n c d w
open Go.Proofs Go.RowKit Go.Lib in
theorem Tryz.bytes_Index_at (a1 a2:Addr) (n c1 k c2:Nat) (xs ys:List Int) (m:Int) (w:World) (hx:xs.length=n) (hy:ys.length=k) (hr1:∀x∈xs,0≤x∧x<256) (hr2:∀y∈ys,0≤y∧y<256) (hc1:∀i,i<n→w.cell? (a1.add i)=some (.int .u8 (xs.getD i 0))) (hc2:∀i,i<k→w.cell? (a2.add i)=some (.int .u8 (ys.getD i 0))) (hcap:n≤c1) (hs:n<4294967281) (hk:k≤9223372036854775807) (hm:w.cell? ⟨0,0,none⟩=some (.int .i64 m)) :
  Calls Tryz.prog 98 #[.slice (some a1) n c1,.slice (some a2) k c2] w λe w'=>e = .returned (.int .i64 (Lib.index (Lib.bytesOf xs) (Lib.bytesOf ys)))∧∃q,w'=w.drewN q:=Any.bytes_Index_at Tryz.lays185 a1 a2 n c1 k c2 xs ys m w hx hy hr1 hr2 hc1 hc2 hcap hs hk hm
open Go.Proofs Go.RowKit Go.Lib in
theorem Tryz.bytes_Index_nil (p2:Option Addr) (k c2:Nat) (w:World) (hk:k≤9223372036854775807) (h1:k=1→∃b2 o2 cv,p2=some ⟨b2,o2,none⟩∧w.cell? ⟨b2,o2,none⟩=some (.int .u8 cv)) :
  Calls Tryz.prog 98 #[.slice none 0 0,.slice p2 k c2] w λe w'=>e = .returned (.int .i64 (if k=0 then 0 else -1))∧w'=w:=Any.bytes_Index_nil Tryz.lays185 p2 k c2 w hk h1
def Tryz.laysM185_ren:Go.Shelf.Ren:=⟨fun|185=>98|187=>120|115=>121|253=>122|224=>123|254=>124|255=>150|291=>151|n=>n,fun|37=>23|3=>3|4=>4|0=>0|5=>5|46=>67|9=>9|146=>235|51=>32|n=>n,fun|1=>0|n=>n⟩
theorem Tryz.laysM185:Go.Proofs.LaysM.n185 Tryz.prog Tryz.laysM185_ren:={
 mixed:=by kernel_rfl
 f115:=Tryz.func121.trans (congrArg some (by kernel_rfl))
 f185:=Tryz.func98.trans (congrArg some (by kernel_rfl))
 f187:=Tryz.func120.trans (congrArg some (by kernel_rfl))
 f224:=Tryz.func123.trans (congrArg some (by kernel_rfl))
 f253:=Tryz.func122.trans (congrArg some (by kernel_rfl))
 f254:=Tryz.func124.trans (congrArg some (by kernel_rfl))
 f255:=Tryz.func150.trans (congrArg some (by kernel_rfl))
 f291:=Tryz.func151.trans (congrArg some (by kernel_rfl))
 t0:=Tryz.underlying0
 a0:=Tryz.isAgg0
 z0:=Tryz.sizeOf0
 v0:=Tryz.zeroValue0
 t3:=Tryz.underlying3
 a3:=Tryz.isAgg3
 z3:=Tryz.sizeOf3
 v3:=Tryz.zeroValue3
 t4:=Tryz.underlying4
 a4:=Tryz.isAgg4
 z4:=Tryz.sizeOf4
 v4:=Tryz.zeroValue4
 t5:=Tryz.underlying5
 a5:=Tryz.isAgg5
 z5:=Tryz.sizeOf5
 v5:=Tryz.zeroValue5
 t9:=Tryz.underlying9
 a9:=Tryz.isAgg9
 z9:=Tryz.sizeOf9
 v9:=Tryz.zeroValue9
 t37:=Tryz.underlying23
 a37:=Tryz.isAgg23
 z37:=Tryz.sizeOf23
 v37:=Tryz.zeroValue23
 t46:=Tryz.underlying67
 a46:=Tryz.isAgg67
 z46:=Tryz.sizeOf67
 v46:=Tryz.zeroValue67
 t51:=Tryz.underlying32
 a51:=Tryz.isAgg32
 z51:=Tryz.sizeOf32
 v51:=Tryz.zeroValue32
 t146:=Tryz.underlying235
 a146:=Tryz.isAgg235
 z146:=Tryz.sizeOf235
 v146:=Tryz.zeroValue235
 g1:=by kernel_rfl
 i0:=by kernel_rfl
 i3:=by kernel_rfl
 i4:=by kernel_rfl
 i5:=by kernel_rfl
 i9:=by kernel_rfl
 i37:=by kernel_rfl
 i46:=by kernel_rfl
 i51:=by kernel_rfl
 i146:=by kernel_rfl
 m1:=by kernel_rfl
 s1_3:=λw h=>Go.Proofs.cell_of_shapedOpen_int (zero:=#[.int .i64 0]) (t:=3) h (of_decide_eq_true (by kernel_rfl)) (by kernel_rfl) rfl (by kernel_rfl) (by kernel_rfl) Tryz.underlying3 }
end Go.Proofs
namespace Go.Proofs.YtkmpfgpfbmeihaaGreatDoor.delta
open Go Go.RowKit lib
def nz (c:Nat):List UInt8:=if c=0 then [] else [UInt8.ofNat c]
def bit (c:Nat):Nat:=if c=0 then 0 else 1
theorem qk8 (c:Nat):bit c≤1:=by unfold bit;split<;>omega
theorem qiw {op f i p n c:Nat} {r:List UInt8} (hc:c<256) (h:op/2^i%2=bit c):pl op (f+1) i p n (nz c++r)=if i<4 then pl op f (i+1) (p+c*256^i) n r else pl op f (i+1) p (n+c*256^(i-4)) r:=by
 unfold nz;unfold bit at h;by_cases h0:c=0
 ·subst h0;rw[if_pos rfl]at h ⊢;rw[qb4,qsi h];simp
 ·rw[if_neg h0]at h ⊢;rw[List.singleton_append,qpd h,qhr hc]
def cbyte (p k i:Nat):Nat:=if i<4 then p/256^i%256 else if k=65536 then 0 else k/256^(i-4)%256
theorem qgi (p k i:Nat):cbyte p k i<256:=by
 unfold cbyte;split
 ·omega
 ·split<;>omega
def opOf (p k:Nat):Nat→Nat
 | 0=>0
 | i+1=>opOf p k i+bit (cbyte p k i)*2^i
def argsOf (p k:Nat):Nat→List UInt8
 | 0=>[]
 | i+1=>argsOf p k i++nz (cbyte p k i)
theorem zhg (c:Nat):(nz c).length≤1:=by unfold nz;split<;>simp
theorem qh0 (p k:Nat):∀i,(argsOf p k i).length≤i
 | 0=>qae _
 | i+1=>by have:=qh0 p k i;have:=zhg (cbyte p k i);simp only[argsOf,qab];omega
theorem qmt (p k:Nat):∀i,opOf p k i<2^i
 | 0=>by simp[opOf]
 | i+1=>by have h1:=qmt p k i;have h2:=qk8 (cbyte p k i);have h3:bit (cbyte p k i)*2^i≤1*2^i:=qcr _ h2;simp only[opOf,qcs];omega
theorem qha (p k:Nat) (i:Nat) (hi:i<7):opOf p k 7/2^i%2=bit (cbyte p k i):=by
 have b0:=qk8 (cbyte p k 0);have b1:=qk8 (cbyte p k 1);have b2:=qk8 (cbyte p k 2);have b3:=qk8 (cbyte p k 3);have b4:=qk8 (cbyte p k 4);have b5:=qk8 (cbyte p k 5);have b6:=qk8 (cbyte p k 6);have e:opOf p k 7=bit (cbyte p k 0)+bit (cbyte p k 1)*2+bit (cbyte p k 2)*4+bit (cbyte p k 3)*8+bit (cbyte p k 4)*16+bit (cbyte p k 5)*32+bit (cbyte p k 6)*64:=by simp[opOf]
 rw[e];rcases (show i=0∨i=1∨i=2∨i=3∨i=4∨i=5∨i=6 from by omega) with rfl|rfl|rfl|rfl|rfl|rfl|rfl
 all_goals simp only[show (2:Nat)^0=1 from rfl,show (2:Nat)^1=2 from rfl,show (2:Nat)^2=4 from rfl,show (2:Nat)^3=8 from rfl,show (2:Nat)^4=16 from rfl,show (2:Nat)^5=32 from rfl,show (2:Nat)^6=64 from rfl];omega
theorem zez (p k:Nat) (hp:p<4294967296) (hk1:1≤k) (hk2:k≤65536) (r:List UInt8):pl (opOf p k 7) 7 0 0 0 (argsOf p k 7++r)=some (p,k,r):=by
 have e:argsOf p k 7++r=nz (cbyte p k 0)++(nz (cbyte p k 1)++(nz (cbyte p k 2)++(nz (cbyte p k 3)++(nz (cbyte p k 4)++(nz (cbyte p k 5)++(nz (cbyte p k 6)++r)))))):=by simp[argsOf]
 rw[e,qiw (qgi p k 0) (qha p k 0 (by decide)),if_pos (by decide),qiw (qgi p k 1) (qha p k 1 (by decide)),if_pos (by decide),qiw (qgi p k 2) (qha p k 2 (by decide)),if_pos (by decide),qiw (qgi p k 3) (qha p k 3 (by decide)),if_pos (by decide),
  qiw (qgi p k 4) (qha p k 4 (by decide)),if_neg (by decide),qiw (qgi p k 5) (qha p k 5 (by decide)),if_neg (by decide),qiw (qgi p k 6) (qha p k 6 (by decide)),if_neg (by decide),pl]
 have c0:cbyte p k 0=p%256:=by unfold cbyte;simp
 have c1:cbyte p k 1=p/256%256:=by unfold cbyte;simp
 have c2:cbyte p k 2=p/65536%256:=by unfold cbyte;simp
 have c3:cbyte p k 3=p/16777216%256:=by unfold cbyte;simp
 have c4:cbyte p k 4=if k=65536 then 0 else k%256:=by unfold cbyte;simp
 have c5:cbyte p k 5=if k=65536 then 0 else k/256%256:=by unfold cbyte;simp
 have c6:cbyte p k 6=if k=65536 then 0 else k/65536%256:=by unfold cbyte;simp
 rw[c0,c1,c2,c3,c4,c5,c6];have e1:0+p%256*256^0+p/256%256*256^(0+1)+p/65536%256*256^(0+1+1)+p/16777216%256*256^(0+1+1+1)=p:=by simp only[show 256^0=1 from rfl,show 256^(0+1)=256 from rfl,show 256^(0+1+1)=65536 from rfl,show 256^(0+1+1+1)=16777216 from rfl];omega
 rw[e1];by_cases hk:k=65536
 ·subst hk;simp
 ·simp only[if_neg hk];have e2:0+k%256*256^(0+1+1+1+1-4)+k/256%256*256^(0+1+1+1+1+1-4)+k/65536%256*256^(0+1+1+1+1+1+1-4)=k:=by simp only[show 256^(0+1+1+1+1-4)=1 from rfl,show 256^(0+1+1+1+1+1-4)=256 from rfl,show 256^(0+1+1+1+1+1+1-4)=65536 from rfl];omega
  rw[e2,if_neg (by omega)]
def cop (p k:Nat):List UInt8:=UInt8.ofNat (128+opOf p k 7)::argsOf p k 7
theorem zg0 (p k:Nat):(cop p k).length≤8:=by have:=qh0 p k 7;simp only[cop,qao];omega
theorem qlp (base:List UInt8) (tn:Nat):∀(f g:Nat) (r out:List UInt8),r.length≤f→r.length≤g→app base tn f r out=app base tn g r out
 | f,g,[],out,_,_=>by rw[qnm,qnm]
 | f+1,g+1,c::r,out,hf,hg=>by
  simp only[qao]at hf hg;rw[qim,qim];split
  ·cases hpl:pl (c.toNat-128) 7 0 0 0 r with
   | none=>rfl
   | some x=>
    obtain⟨p,n,rest⟩:=x;have:=qqt _ _ _ _ _ _ _ hpl;simp only at this ⊢;split
    ·rfl
    ·exact qlp base tn f g rest _ (by omega) (by omega)
  ·split
   ·rfl
   ·split
    ·rfl
    ·exact qlp base tn f g _ _ (by rw[qav];omega) (by rw[qav];omega)
def Runs (base ins acc:List UInt8):Prop:=∀(tn:Nat) (rest out:List UInt8),out.length+acc.length≤tn→app base tn (ins++rest).length (ins++rest) out=app base tn rest.length rest (out++acc)
theorem qjg (base:List UInt8):Runs base [] []:=λtn rest out _=>by simp
theorem Runs.append {base i1 a1 i2 a2:List UInt8} (h1:Runs base i1 a1) (h2:Runs base i2 a2):Runs base (i1++i2) (a1++a2):=λtn rest out h=>by rw[qab]at h;have e1:=h1 tn (i2++rest) out (by omega);have e2:=h2 tn rest (out++a1) (by rw[qab];omega);rw[qas,e1,e2,qas]
theorem qxc (base:List UInt8) (p k:Nat) (hb:base.length<4294967296) (hk1:1≤k) (hk2:k≤65536) (h:p+k≤base.length):Runs base (cop p k) ((base.drop p).take k):=λtn rest out ho=>by
 have hl:((base.drop p).take k).length=k:=by rw[qaq,qav];omega
 rw[hl]at ho;have ho7:=qmt p k 7;have e2:(2:Nat)^7=128:=by decide
 have eb:(UInt8.ofNat (128+opOf p k 7)).toNat=128+opOf p k 7:=qhr (by omega);show app base tn ((argsOf p k 7++rest).length+1) (UInt8.ofNat (128+opOf p k 7)::(argsOf p k 7++rest)) out=_;rw[qim,eb,if_pos (by omega),Nat.add_sub_cancel_left,zez p k (by omega) hk1 hk2];simp only;rw[if_neg (by omega)];exact qlp base tn _ _ _ _ (by rw[qab];omega) (qae _)
theorem zbd (base w:List UInt8) (h0:0<w.length) (h1:w.length≤127):Runs base (UInt8.ofNat w.length::w) w:=λtn rest out ho=>by have eb:(UInt8.ofNat w.length).toNat=w.length:=qhr (by omega);show app base tn ((w++rest).length+1) (UInt8.ofNat w.length::(w++rest)) out=_;rw[qim,eb,if_neg (by omega),if_neg (by omega),if_neg (by rw[qab];omega),zde,List.take_left];exact qlp base tn _ _ _ _ (by rw[qab];omega) (qae _)
def lits:Nat→List UInt8→List UInt8
 | 0,_=>[]
 | f+1,w=>if w=[] then [] else (UInt8.ofNat (min 127 w.length)::w.take 127)++lits f (w.drop 127)
theorem lits_nil (f:Nat):lits f []=[]:=by cases f<;>simp[lits]
theorem qmy {f:Nat} {w:List UInt8} (h:w≠[]):lits (f+1) w=(UInt8.ofNat (min 127 w.length)::w.take 127)++lits f (w.drop 127):=by rw[lits,if_neg h]
theorem qme (base:List UInt8):∀(f:Nat) (w:List UInt8),w.length≤f→Runs base (lits f w) w
 | 0,w,h=>by
  obtain rfl:w=[]:=qbv (by omega);exact qjg base
 | f+1,w,h=>by
  by_cases hw:w=[]
  ·subst hw;rw[lits_nil];exact qjg base
  ·have hl:0<w.length:=qj1.2 hw;rw[qmy hw];have h1:=zbd base (w.take 127) (by rw[qaq];omega) (by rw[qaq];omega);rw[qaq]at h1;have h2:=h1.append (qme base f (w.drop 127) (by rw[qav];omega));rw[qfc]at h2;exact h2
theorem qlk:∀(f:Nat) (w:List UInt8),(lits f w).length≤w.length+(w.length+126)/127
 | 0,w=>by simp[lits]
 | f+1,w=>by
  by_cases hw:w=[]
  ·subst hw;rw[lits_nil];simp
  ·have hl:0<w.length:=qj1.2 hw;have:=qlk f (w.drop 127);rw[qmy hw];simp only[qab,qao,qaq,qav]at *;omega
def cops:Nat→Nat→Nat→List UInt8
 | 0,_,_=>[]
 | f+1,p,n=>if n=0 then [] else cop p (min n 65536)++cops f (p+min n 65536) (n-min n 65536)
theorem qnh (f p:Nat):cops f p 0=[]:=by cases f<;>simp[cops]
theorem qni {f p n:Nat} (h:n≠0):cops (f+1) p n=cop p (min n 65536)++cops f (p+min n 65536) (n-min n 65536):=by rw[cops,if_neg h]
theorem qmf (base:List UInt8) (hb:base.length<4294967296):∀(f p n:Nat),n≤f→p+n≤base.length→Runs base (cops f p n) ((base.drop p).take n)
 | 0,p,n,hf,_=>by
  obtain rfl:n=0:=by omega
  rw[qan];exact qjg base
 | f+1,p,n,hf,h=>by
  by_cases hn:n=0
  ·subst hn;rw[qnh,qan];exact qjg base
  ·rw[qni hn];have h1:=qxc base p (min n 65536) hb (by omega) (by omega) (by omega);have h2:=h1.append (qmf base hb f (p+min n 65536) (n-min n 65536) (by omega) (by omega));have e:(base.drop p).take n=(base.drop p).take (min n 65536)++(base.drop (p+min n 65536)).take (n-min n 65536):=by rw[<-qep,<-List.take_add];congr 1;omega
   rw[e];exact h2
theorem qp0:∀(f p n:Nat),(cops f p n).length≤8*((n+65535)/65536)
 | 0,p,n=>by simp[cops]
 | f+1,p,n=>by
  by_cases hn:n=0
  ·subst hn;rw[qnh];simp
  ·have h1:=zg0 p (min n 65536);have h2:=qp0 f (p+min n 65536) (n-min n 65536);rw[qni hn,qab];omega
theorem qwd (base ins text:List UInt8) (hb:base.length≤2147483647) (ht:text.length≤2147483647) (h:Runs base ins text) (bound:Int) (hbd:(text.length:Int)≤bound) :
  delta.apply base (numb base.length++(numb text.length++ins)) bound=(text,0):=by
 unfold delta.apply;rw[qvf base.length text.length hb ht ins];simp only[ne_eq,not_true_eq_false,if_false];rw[if_neg (by omega)];have:=h text.length [] [] (by simp);simp only[qbr,qb4]at this;rw[this,qnm,if_neg (by omega)]
open bm
structure Mk (S0:List Nat) (w wr:World) (q:Nat) (oa:Option Addr) (oc:Nat) (out:List UInt8) (wa:Option Addr) (wc:Nat) (wait:List UInt8):Prop where
 blk:wr.heap[q]?=some (.cells #[.slice oa out.length oc,.slice wa wait.length wc] 168 (0,0))
 o:Own wr 5 oa oc (out.map bv)
 x:Own wr 5 wa wc (wait.map bv)
 qo:q∉lib.blk oa
 qx:q∉lib.blk wa
 apart:∀y∈lib.blk oa,y∉lib.blk wa
 fr:Fr S0 w wr
 new:q∈S0∨w.heap.size≤q
 newO:∀y∈lib.blk oa,y∈S0∨w.heap.size≤y
 newX:∀y∈lib.blk wa,y∈S0∨w.heap.size≤y
theorem Mk.fr0 {S0:List Nat} {w wr wz:World} {q:Nat} {oa wa:Option Addr} {oc wc:Nat} {out wait:List UInt8} (h:Mk S0 w wr q oa oc out wa wc wait) (f:Fr [] wr wz):Mk S0 w wz q oa oc out wa wc wait:=
 ⟨f.blk h.blk (by simp),h.o.fr f (by simp),h.x.fr f (by simp),h.qo,h.qx,h.apart,h.fr.step f (by simp),h.new,h.newO,h.newX⟩
theorem Mk.out1 {S0:List Nat} {w wr w1 w2:World} {q:Nat} {oa wa a2:Option Addr} {oc wc c2 n:Nat} {out wait news:List UInt8} (h:Mk S0 w wr q oa oc out wa wc wait) (f:Fr [] wr w1)
  (A:OwnMore w1 w2 5 oa a2 c2 (out.map bv++news.map bv)) (hn:out.length+news.length=n):Mk S0 w (w2.setCell ⟨q,0,none⟩ (.slice a2 n c2)) q a2 c2 (out++news) wa wc wait:=by
 have h1:=h.fr0 f;have hq:q<w1.heap.size:=lt_of_block h1.blk;have hx:=h1.x.lt;have ha2:∀y∈lib.blk a2,y≠q∧y∉lib.blk wa∧(y∈S0∨w.heap.size≤y):=λy hy=>by
  rcases A.at_ y hy with k|k
  ·exact⟨λe=>h.qo (by rw[<-e];exact k),h.apart y k,h.newO y k⟩
  ·have:=h1.fr.size;exact⟨by omega,λe=>by have:=hx y e;omega,by omega⟩
 have fs:Fr [q] w2 (w2.setCell ⟨q,0,none⟩ (.slice a2 n c2)):=(Fr.refl [q] w2).setCell (by simp) _;have hb:=A.fr.blk h1.blk h.qo;refine⟨?_,?_,?_,λe=>(ha2 q e).1 rfl,h.qx,λy hy=>(ha2 y hy).2.1,((h1.fr.step A.fr λy hy=>h.newO y hy).step fs λy hy=>by simp at hy;rw[hy];exact h.new),h.new,λy hy=>(ha2 y hy).2.2,h.newX⟩
 ·rw[qax hb,qab,hn];rfl
 ·rw[qbe];exact A.own.fr fs λy hy=>by simpa using (ha2 y hy).1
 ·exact (h1.x.fr A.fr λy hy e=>h.apart y e hy).fr fs λy hy=>by simp;intro e;exact h.qx (by rw[<-e];exact hy)
theorem Mk.wait1 {S0:List Nat} {w wr:World} {q:Nat} {oa wa a2:Option Addr} {oc wc c2 n:Nat} {out wait wait2:List UInt8} (h:Mk S0 w wr q oa oc out wa wc wait) (ho:Own wr 5 a2 c2 (wait2.map bv)) (hn:wait2.length=n)
  (hb:∀y∈lib.blk a2,y∈lib.blk wa):Mk S0 w (wr.setCell ⟨q,1,none⟩ (.slice a2 n c2)) q oa oc out a2 c2 wait2:=by
 have fs:Fr [q] wr (wr.setCell ⟨q,1,none⟩ (.slice a2 n c2)):=(Fr.refl [q] wr).setCell (by simp) _;refine⟨?_,h.o.fr fs λy hy=>by simp;intro e;exact h.qo (by rw[<-e];exact hy),ho.fr fs λy hy=>by simp;intro e;exact h.qx (by rw[<-e];exact hb y hy),h.qo,λe=>h.qx (hb q e),λy hy e=>h.apart y hy (hb y e),h.fr.step fs λy hy=>by simp at hy;rw[hy];exact h.new,h.new,h.newO,λy hy=>h.newX y (hb y hy)⟩;rw[qax h.blk,hn];rfl
theorem qyd {k:Nat} {out w R:List UInt8} (h:out++lits k w=R) (hw:w=[]):out=R:=by subst hw;rw[lits_nil,qbr]at h;exact h
theorem qrd (S0:List Nat) (w W:World) (q:Nat) (oa wa:Option Addr) (oc wc:Nat) (out wait:List UInt8) (h:Mk S0 w W q oa oc out wa wc wait) (hlim:out.length+2*wait.length≤1099511627776) :
  Calls Tryz.prog 102 #[.pointer (some ⟨q,0,none⟩)] W λe W'=>e = .returned (.tuple #[])∧∃oa' oc' wa' wc',Mk S0 w W' q oa' oc' (out++lits wait.length wait) wa' wc' []:=by
 obtain⟨R,hR⟩:∃R,out++lits wait.length wait=R:=⟨_,rfl⟩;rw[hR];have H0:=zhd2 h hR;clear h hR;go_enter Tryz.func102,Tryz.ntmps102;go_wp2;go_loopg [2] wait.length (λk s2 wr=>∃oa oc out wa wc wait,Mk S0 w wr q oa oc out wa wc wait∧out++lits k wait=R∧wait.length≤k∧out.length+2*wait.length≤1099511627776);case atStart=>exact⟨oa,oc,out,wa,wc,wait,H0.o0,H0.l1,qae _,hlim⟩
 case round=>
  obtain⟨oa,oc,out,wa,wc,x,h,hr,hk,hb⟩:=hrel;have c0:=cell_of h.blk 0;have c1:=cell_of h.blk 1;have z0:=qau h.blk 0;have z1:=qau h.blk 1;simp only[qag,qac,qaf]at c0 c1;obtain⟨o1,o2,o3⟩:=h.o.shape;obtain⟨x1,x2,x3⟩:=h.x.shape;rw[qap]at o1 x1;have H:=zhd h;clear h H0;by_cases hx:x=[]
  ·subst hx;have hd:=qyd hr rfl;have HD:=zhd hd;clear hr hd;go_wp2;go_end0;rw[<-HD.out];exact⟨rfl,oa,oc,wa,wc,H.out⟩
  ·have hl:0<x.length:=qj1.2 hx;obtain⟨k,rfl⟩:∃k,gk=k+1:=⟨gk-1,by omega⟩;rw[qmy hx]at hr;obtain⟨n,hn⟩:=zex (min 127 x.length);have hn1:(n:Int)=if ((x.length:Nat):Int)<127 then ((x.length:Nat):Int) else 127:=by rw[hn];split<;>omega
   have hn2:n≤127∧n≤x.length∧1≤n:=by omega
   have HN:=zhd3 hn1 hn hr;clear hn hn1 hr hx;go_upto_region 2 with (refine qfz (n:Int) rfl _ _ _ rfl 127 ((x.length:Nat):Int) rfl rfl HN.o0 ?_);obtain⟨S,hS⟩:=zex (blk oa);have hqS:q∉S:=by rw[hS];exact H.out.qo
   have HS:=zhd hS;have q0:∀y,(sup S wr.drew y).cell? ⟨q,0,none⟩=some (.slice oa out.length oc):=λy=>(qcm S wr.drew y).cell ((Fr.drew1 [] wr).cell c0 (by simp)) hqS
   have q1:∀y,(sup S wr.drew y).cell? ⟨q,1,none⟩=some (.slice wa x.length wc):=λy=>(qcm S wr.drew y).cell ((Fr.drew1 [] wr).cell c1 (by simp)) hqS
   have Hq0:=zhd q0;have HC:=zhd2 c0 c1;have hsl:=λw=>lib.qdy sliceU8 n wa x.length wc (n:Int) rfl (by omega) w
   have HSL:=zhd hsl;clear hS c0 c1 z0 z1;refine qg7 18 [(false,0),(false,1),(false,2),(false,3),(false,4),(false,5),(false,6),(false,9),(false,10),(false,11),(false,12),(false,13),(false,14),(true,7),(true,8),(true,15),(false,16),(false,17)] S (by kernel_rfl) (by kernel_rfl) (λ_ _ d _ _ h=>by cases d<;>exact h) ?_;simp only[qak,qam,qaz,qa0,qad,qaj,qbk];refine qgg 13 rfl ?_;simp only[qah,qan,qad,qaj,qak,qam];repeat (go_big_quiet_step (fail))
   refine wpQuiet_nil ?_;clear q0 q1 hsl;refine qfp rfl ?_;intro X hX;go_wp2;refine hX.out _ _ wr.drew (Fr.refl _ _) ((Fr.refl S wr.drew).alloc _) ?_;clear hX X;obtain⟨w1,hw1⟩:∃w1,w1=(wr.alloc (.cells #[.int .u8 (n:Int)] 5)).drew:=⟨_,rfl⟩;rw[<-hw1];have f1:Fr [] wr w1:=by rw[hw1];exact ((Fr.refl [] wr).alloc _).drew
   have hb1:w1.heap[wr.heap.size]?=some (.cells #[.int .u8 (n:Int)] 5 (0,0)):=by rw[hw1];exact (Fr.drew1 [] _).blk (qay wr _) (by simp)
   have hcb:Cs w1 (some ⟨wr.heap.size,0,none⟩) (([UInt8.ofNat n]:List UInt8).map bv):=qdp _ _ _ _ (by rw[hb1];unfold bv;rw[qhr (by omega)]);have F1:=zhd3 f1 hb1 hcb;have fb1:Fr S wr.drew w1:=by rw[hw1];exact (((Fr.refl S wr).alloc _).drew).from_drew
   clear hw1 f1 hb1 hcb;refine qfp rfl ?_;intro X hX;refine qfn sliceU8 _ _ rfl oa out.length oc (out.map bv) rfl (H.out.o.fr F1.o0 (by simp)) (by rw[qap]) (some ⟨wr.heap.size,0,none⟩) 1 1 (([UInt8.ofNat n]:List UInt8).map bv) rfl (by decide) (by simp) F1.l2 (by rfl) (qc0 _) (by omega) (by unfold maxLen;omega) ?_;intro a2 c2 w2 A2;have fb2:Fr S wr.drew w2:=fb1.step A2.fr λy hy=>.inl (by rw[HS.out];exact hy)
   refine hX.out _ _ wr.drew (Fr.refl _ _) fb2 ?_;clear hX X fb1;simp only[Act.put,qbb,qbx,qbq];have own2:Own w2 5 a2 c2 ((out++[UInt8.ofNat n]).map bv):=by rw[qbe];exact A2.own
   have cs2:Rd w2 wa wc (x.take n):=(((H.out.x.fr F1.o0 (by simp)).fr A2.fr λy hy e=>H.out.apart y e hy).rd).take n;have hln:(x.take n).length=n:=by rw[qaq];omega
   refine qfp rfl ?_;intro X hX;refine qfn sliceU8 _ _ rfl a2 (out.length+1) c2 ((out++[UInt8.ofNat n]).map bv) rfl own2 (by simp) wa n wc ((x.take n).map bv) rfl (by omega) cs2.nil cs2.cs (by rw[qap,hln]) (qc0 _) (by omega) (by unfold maxLen;omega) ?_;intro a3 c3 w3 A3;have fb3:Fr S wr.drew w3:=fb2.step A3.fr λy hy=>(A2.at_ y hy).imp (λh=>by rw[HS.out];exact h) (λh=>qar (by rw[<-(rfl:wr.drew.heap.size=wr.heap.size)];exact F1.o0.size) h)
   refine hX.out _ _ wr.drew (Fr.refl _ _) fb3 ?_;clear hX X;simp only[Act.put,qbb,qbx,qbq];have HA:=zhd (A2.two A3);have hbq:=fb3.blk ((Fr.drew1 [] wr).blk H.out.blk (by simp)) hqS;have c0:=cell_of hbq 0;have c1:=cell_of hbq 1;have z0:=qau hbq 0;have z1:=qau hbq 1;simp only[qag,qac,qaf]at c0 c1;clear hbq;clear A2 A3 own2 cs2 fb2;have q0:=Hq0.out;refine qgg 2 rfl ?_;simp only[qah,qan,qad,qaj,qak,qam];repeat (go_big_quiet_step (fail))
   refine wpQuiet_nil ?_;clear q0;refine qlj ?_;go_wp2_with (refine qb2 sliceU8 n rfl _ _ rfl wa x.length wc _ rfl rfl rfl (by omega) (by omega) ?_);go_roundg k;case measure=>omega
   case rel=>
    have A:=HA.out;have hN:=HN.out;have e1:x.take 127=x.take n:=by rw[hN.2.1,<-List.take_eq_take_min]
    have e2:x.drop 127=x.drop n:=by
     by_cases h:127≤x.length
     ·rw[hN.2.1,qc6 h]
     ·rw[qc3 (by omega),qc3 (by omega)]
    have hR:=hN.2.2;rw[e1,e2,<-hN.2.1]at hR;have m1:=H.out.out1 (news:=UInt8.ofNat n::x.take n) (n:=out.length+1+n) F1.o0 (by simpa using A) (by simp;omega);have m2:=m1.wait1 (wait2:=x.drop n) (n:=x.length-n) (by rw[qti];exact m1.x.drop n (by rw[qap];omega)) (by rw[qav]) (by rw[qij];exact λ_ h=>h);refine⟨_,_,out++(UInt8.ofNat n::x.take n),_,_,x.drop n,m2,by rw[qas];exact hR,by rw[qav];omega,?_⟩;simp only[qab,qao,qaq,qav];omega
end Go.Proofs.YtkmpfgpfbmeihaaGreatDoor.delta
