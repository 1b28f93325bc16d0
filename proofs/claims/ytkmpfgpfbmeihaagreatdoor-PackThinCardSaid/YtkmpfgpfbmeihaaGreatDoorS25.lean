/-
  Texts of this proof, one behind the other: WrWrite, WrWhole, ThinLaw, RWords.
-/
import Derived.Test.YtkmpfgpfbmeihaaGreatDoorS24
set_option maxHeartbeats 16000000
set_option maxRecDepth 100000
set_option linter.unusedVariables false
set_option linter.unusedSimpArgs false
namespace Go.Proofs.YtkmpfgpfbmeihaaGreatDoor.pk
open Go Go.RowKit lib bm huf
set_option maxRecDepth 100000
def WForm (k:Nat) (xid base text E:List UInt8):Prop:=
 (∃r,trip.RQ text r∧E=hd k text.length++defl.zlibOf 2 r text)∨(∃d r,delta.Made base text d∧d.length<text.length∧trip.RQ d r∧E=hd 7 d.length++xid++defl.zlibOf 2 r d)
def Wrote (w:World) (W:Nat) (ba:Option Addr) (lv:Value) (out:List UInt8) (k:Nat) (xid base text:List UInt8) (e:Ending) (w':World):Prop:=
 e = .returned (.tuple #[])∧Fr (W::blk ba) w w'∧∃E,WForm k xid base text E∧E.length≤500000∧∃a2 c2 v2 v3,w'.heap[W]?=some (.cells #[.slice a2 (out.length+E.length) c2,lv,v2,v3] 74 (0,0))∧w'.ownsRow 0 5 1 (.slice a2 (out.length+E.length) c2) (out.length+E.length) ((out++E).map bv)∧W∉blk a2∧∀y∈blk a2,y∈blk ba∨w.heap.size≤y
theorem qi8 {w w1 w2:World} {W:Nat} {ba:Option Addr} {bc:Nat} {lv v2 v3:Value} {out E:List UInt8} {k:Nat} {xid base text:List UInt8} (f:Fr [W] w w1) (hW:w1.heap[W]?=some (.cells #[.slice ba out.length bc,lv,v2,v3] 74 (0,0))) (hWB:W∉blk ba) (f2:Fr (blk ba) w1 w2) (a2:Option Addr) (c2:Nat)
  (own:w2.ownsRow 0 5 1 (.slice a2 (out.length+E.length) c2) (out.length+E.length) ((out++E).map bv)) (hat:∀y∈blk a2,y∈blk ba∨w1.heap.size≤y) (hE:WForm k xid base text E) (hEl:E.length≤500000) (v4:Value) :
  Wrote w W ba lv out k xid base text (.returned (.tuple #[])) ((w2.setCell ⟨W,0,none⟩ (.slice a2 (out.length+E.length) c2)).setCell ⟨W,3,none⟩ v4):=by
 have hW2:=f2.blk hW hWB;have h1:=qax (o:=0) hW2 (.slice a2 (out.length+E.length) c2);have h2:=qax (o:=3) h1 v4;have fW:Fr [W] w2 ((w2.setCell ⟨W,0,none⟩ (.slice a2 (out.length+E.length) c2)).setCell ⟨W,3,none⟩ v4):=((Fr.refl [W] w2).setCell (by simp) _).setCell (by simp) _;have hWa:W∉blk a2:=λh=>by
  rcases hat W h with h|h
  ·exact hWB h
  ·have:=lt_of_block hW;omega
 refine⟨rfl,((f.mono (T:=W::blk ba) (by simp)).trans (f2.mono (λy hy=>.inl (by simp[hy])))).trans (fW.mono (by simp)),E,hE,hEl,a2,c2,v2,v4,h2,qa7 own fW (λy hy=>?_),hWa,λy hy=>?_⟩
 ·have h3:y∈blk a2:=by rw[<-qby a2 (out.length+E.length) c2,hy];simp
  simp;rintro rfl;exact hWa h3
 ·rcases hat y hy with h|h
  ·exact .inl h
  ·exact .inr (qar f.size h)
theorem qwn (W:Nat) (ba la ta:Option Addr) (bc lc tc:Nat) (out:List UInt8) (m x:OM) (k:Nat) (xid:List UInt8) (mm:Int) (w:World)
  (hW:w.heap[W]?=some (.cells #[.slice ba out.length bc,.slice la 1 lc,.slice none 0 0,.slice none 0 0] 74 (0,0)))
  (hown:w.ownsRow 0 5 1 (.slice ba out.length bc) out.length (out.map bv)) (hWB:W∉blk ba) (hbw:out.length≤1000)
  (hl:ORow w la lc [m]) (ht:ORow w ta tc [x]) (hmk:m.1.kind=(k:Nat)) (hxk:x.1.kind=(k:Nat)) (hk7:k≤7)
  (hxid:x.1.id=hexb xid) (hx20:xid.length=20) (hmb:m.1.body.length≤65536) (hxb:x.1.body.length≤65536) (hm:w.cell? ⟨0,0,none⟩=some (.int .i64 mm)) (hoW:∀y∈blk m.2.1,y<W) :
  Calls Tryz.prog 34 #[.pointer (some ⟨W,0,none⟩),.int .i64 0,.slice ta 1 tc] w (Wrote w W ba (.slice la 1 lc) out k xid x.1.body m.1.body):=by
 obtain⟨lg,lo,rfl,hc⟩:=hl.cell (i:=0) rfl;obtain⟨tg,to_,rfl,hD⟩:=ht.cell (i:=0) rfl;have hrm:=hl.rd m (by simp);have hrx:=ht.rd x (by simp);obtain⟨o,oa,oc⟩:=m;obtain⟨p,pa,pc⟩:=x;simp only at hrm hrx hmk hxk hxid hmb hxb hc hD hoW;obtain⟨kd,bs,id,at_,crc⟩:=o;obtain⟨kd2,bs2,id2,at2,crc2⟩:=p;simp only at hrm hrx hmk hxk hxid hmb hxb;subst hmk hxk hxid;have c0:=hc 0 (.int .i64 k) rfl;have c1:=hc 1 (.slice oa bs.length oc) rfl;have c2:=hc 2 (.string (str id)) rfl;have c3:=hc 3 (.int .i64 at_) rfl;have c4:=hc 4 (.int .u32 crc) rfl;have d0:=hD 0 (.int .i64 k) rfl;have d1:=hD 1 (.slice pa bs2.length pc) rfl;have d2:=hD 2 (.string (str (hexb xid))) rfl;have d3:=hD 3 (.int .i64 at2) rfl;have d4:=hD 4 (.int .u32 crc2) rfl;simp only[qj3,qbn]at c0 c1 c2 c3 c4 d0 d1 d2 d3 d4;have w1:=cell_of hW 1;simp only[qag,qac,qaf]at w1;obtain⟨bl,hbl⟩:=zex bs.length;obtain⟨pl,hpl⟩:=zex bs2.length;obtain⟨ol,hol⟩:=zex out.length;rw[<-hbl]at c1;rw[<-hpl]at d1;have H:=zhd9 hW hown hWB hrm hrx hm hbl hpl hol;have hlb:bl≤65536:=by omega
 have hlp:pl≤65536:=by omega
 have hDD:=zhd5 d0 d1 d2 d3 d4;clear hW hown hWB hrm hrx hm hbl hpl hol hc ht hl d0 d1 d2 d3 d4 hmb hxb;go_enter Tryz.func34,Tryz.ntmps34;go_upto_region 1 with (guard_target =~ wpList _ _ _ (⟨_,Op.store _ _ _,_,_,_,_⟩::_) _ _;refine wpList_store_row rfl 34 (.tmp 6) (.tmp 27) rfl w.heap.size #[.int .i64 k,.slice oa bl oc,.string (str id),.int .i64 at_,.int .u32 crc] rfl rfl 34 _ (qay _ _) infoObj rfl (by kernel_rfl) ?_);clear c0 c1 c2 c3 c4 w1;simp only[Act.put];generalize hw2:World.setRow _ _ _=w2;obtain⟨X,hX⟩:=zex w.heap.size;rw[<-hX]at hw2 ⊢;have hx2:w2.heap[X]?=some (.cells #[.int .i64 k,.slice oa bl oc,.string (str id),.int .i64 at_,.int .u32 crc] 34 (0,0)):=by rw[<-hw2,hX];exact setRow_heap _ _ _ _ _ _ (qay _ _)
 have f2:Fr [] w w2:=by rw[<-hw2,hX];exact ((Fr.refl [] w).alloc _).setRow (.inr (qae _)) _
 have H2:=zhd3 hx2 f2 hX;clear hx2 f2 hX hw2;go_upto_region 3 with fail;obtain⟨F,hF⟩:=zex w2.heap.size;obtain⟨G,hG⟩:=zex (F+1);rw[<-hF,<-hG];generalize hw3:World.alloc _ _=w3;have hf3:w3.heap[F]?=some (.cells #[.nilIface] 98 (0,0)):=by rw[<-hw3,hF];exact qcx _ (qay w2 _)
 have hg3:w3.heap[G]?=some (.cells #[.slice none 0 0] 23 (0,0)):=by have h:=qay (w2.alloc (.cells #[.nilIface] 98)) (.cells #[.slice none 0 0] 23);rw[qa1,<-hF,<-hG,hw3]at h;exact h
 have f3:Fr [] w2 w3:=by rw[<-hw3];exact ((Fr.refl [] w2).alloc _).alloc _
 have H3:=zhd6 hf3 hg3 (f3.blk H2.o0 (by simp)) (H2.o1.trans f3) hF hG;clear hf3 hg3 f3 hF hG hw3;go_upto_block 0 with (refine qd8 (0:Int) rfl _ _ _ rfl (0:Int) (-10:Int) rfl rfl (by decide) ?_);go_upto_region 8 with fail;go_loopg [10] 0 (λk s10 wr=>s10 = .int .i64 0∧wr=w3);case atStart=>exact⟨rfl,rfl⟩
 case round=>
 obtain⟨rfl,hwr⟩:=hrel;have hwr:=hwr.symm;subst hwr;go_upto_region 9 with fail;go_wp2;go_loopg [11,72] 1 (λk s11 s72 wq=>(k=1∧s72 = .int .i64 0∧s11 = .int .i64 0∧wq=w3)∨(k=0∧s72 = .int .i64 1∧∃w4,Fr [] w3 w4∧TryW w4 F G (.iface 124 (.string (str (hexb xid)))) bs2 bs (.returned (.tuple #[])) wq));case atStart=>exact .inl ⟨rfl,rfl,rfl,rfl⟩
 case round=>
  rcases hrel with⟨rfl,rfl,rfl,hwq⟩|⟨rfl,rfl,w4,f4,hT⟩
  ·have hwq:=hwq.symm;subst hwq;have f0:=H3.o3;have d0:=f0.cell hDD.o0 (by simp);have d1:=f0.cell hDD.o1 (by simp);have d2:=f0.cell hDD.o2 (by simp);have d3:=f0.cell hDD.o3 (by simp);have d4:=f0.cell hDD.l4 (by simp);clear f0;go_upto_region 12 with (guard_target =~ wpList _ _ _ (⟨_,Op.store _ _ _,_,_,_,_⟩::_) _ _;refine wpList_store_row rfl 34 (.tmp 13) (.tmp 75) rfl w3.heap.size #[.int .i64 k,.slice pa pl pc,.string (str (hexb xid)),.int .i64 at2,.int .u32 crc2] rfl rfl 34 _ (qay _ _) infoObj rfl (by kernel_rfl) ?_);clear d0 d1 d2 d3 d4;simp only[Act.put];generalize hw5:World.setRow _ _ _=w5;obtain⟨Y,hY⟩:=zex w3.heap.size;rw[<-hY]at hw5 ⊢;have hy5:w5.heap[Y]?=some (.cells #[.int .i64 k,.slice pa pl pc,.string (str (hexb xid)),.int .i64 at2,.int .u32 crc2] 34 (0,0)):=by rw[<-hw5,hY];exact setRow_heap _ _ _ _ _ _ (qay _ _)
   have f5:Fr [] w3 w5:=by rw[<-hw5,hY];exact ((Fr.refl [] w3).alloc _).setRow (.inr (qae _)) _
   have hx5:=f5.blk H3.o2 (by simp);have hf5:=f5.blk H3.o0 (by simp);have hg5:=f5.blk H3.o1 (by simp);have fw5:=H3.o3.trans f5;have hFG:F≠G:=by have:=H3.l5;omega
   have htry:=zha X F G (str (hexb xid)) pa pc bs2 ⟨(k:Nat),bs,id,at_,crc⟩ oa oc mm w5 (by unfold objV;rw[<-H.o6];exact hx5) hf5 hg5 hFG (H.o4.fr fw5) (H.o3.fr fw5) (by rw[<-H.o7];exact hlp) (by show bs.length≤65536;rw[<-H.o6];exact hlb) (fw5.cell H.o5 (by simp));rw[<-H.o7]at htry;have y0:=cell_of hy5 0;have y1:=cell_of hy5 1;have y2:=cell_of hy5 2;have x0:=cell_of hx5 0;simp only[qag,qac,qaf]at y0 y1 y2 x0;have H5:=zhd2 htry f5;clear htry hx5 hf5 hg5 fw5 f5 hw5 hy5 hY hFG;go_wp2_with (go_at_call 65;refine H5.o0.mono ?_;intro e w6 hT;have he:=hT.1;subst he;have H6:=zhd hT;clear hT);go_roundg 0;case measure=>omega
   case rel=>exact .inr ⟨rfl,rfl,w5,H5.l1,H6.out⟩
  ·have hFw:w.heap.size≤F:=by have:=H2.o1.size;have:=H3.o4;omega
   have hGw:w.heap.size≤G:=by have:=H3.l5;omega
   have fF:Fr [F,G] w3 wr:=(f4.mono (by simp)).trans hT.2.1;have hw4:w.heap.size≤w4.heap.size:=(H3.o3.trans f4).size;have f7:Fr [] w wr:=H3.o3.step fF (λy hy=>by simp at hy;right;rcases hy with rfl|rfl<;>assumption);have hXF:X∉[F,G]:=by have h1:=lt_of_block H2.o0;have h2:=H3.o4;have h3:=H3.l5;simp;omega
   have hx7:=fF.blk H3.o2 hXF;have hW7:=f7.blk H.o0 (by simp);have own7:=qa7 H.o1 f7 (by simp);have hXW:X≠W:=by have h1:=lt_of_block H.o0;have h2:=H2.l2;omega
   have hFW:F≠W:=by have h1:=lt_of_block H.o0;omega
   have hGW:G≠W:=by have h1:=lt_of_block H.o0;omega
   have e0:=cell_of hW7 0;have e2:=cell_of hW7 2;have z2:=qau hW7 2;simp only[qag,qac,qaf]at e0 e2;rw[<-H.l8]at e0;have HT:=zhd8 f7 hx7 hW7 own7 hT.2.2 hXW hFW hGW;have hol:ol≤1000:=by rw[H.l8];exact hbw
   clear f4 hT fF f7 hXF hx7 hW7 own7 hXW hFW hGW hFw hGw hbw;go_upto_region 16 with fail;refine qb3 14 [(false,0),(false,1),(false,2),(false,3),(false,4),(false,5),(false,6),(false,7),(false,8),(false,9),(true,10),(true,11),(false,12),(false,13)] [] (by kernel_rfl) (by kernel_rfl) (λ_ _ d _ _ h=>by cases d<;>exact h) ?_;simp only[qak,qam,qaz,qa0,qad,qaj,qbk];refine qb0 10 rfl ?_;simp only[qah,qan,qad,qaj,qak,qam];repeat (go_big_quiet_step (fail))
   refine wpQuiet_nil ?_;refine qb6 rfl ?_;intro X' hX';go_wp2;refine hX'.out _ _ ((Fr.refl _ wr.drew).alloc _) ?_;clear hX' X';have fA:Fr [] wr (wr.drew.alloc (.cells #[.int .i64 ol] 3)):=(Fr.drew1 [] wr).alloc _;have cI:Cs (wr.drew.alloc (.cells #[.int .i64 ol] 3)) (some ⟨wr.drew.heap.size,0,none⟩) [.int .i64 ol]:=qdp _ _ _ 3 (qay wr.drew _);refine qb6 rfl ?_;intro X' hX';refine qda qdd _ _ rfl (.slice none 0 0) 0 [] [] rfl rfl (qch _ _ _ _) (some ⟨wr.drew.heap.size,0,none⟩) 1 1 [.int .i64 ol] rfl (by decide) (by simp) cI rfl (by simp[Value.oneCell']) (by omega) (by unfold maxLen;omega) ?_;intro a8 c8 w8 A8;refine hX'.out _ _ A8.fr ?_;clear hX' X' cI;simp only[Act.put,qbb,qbx,qbq];have f8:Fr [] wr w8:=fA.step A8.fr (by simp);have z2:=qau (f8.blk HT.out.2.2.1 (by simp)) 2;have e2:=f8.cell e2 (by simp);have e0:=f8.cell e0 (by simp);refine qb0 2 rfl ?_;simp only[qah,qan,qad,qaj,qak,qam];repeat (go_big_quiet_step (fail))
   refine wpQuiet_nil ?_;refine qcq ?_;have H8:=zhd f8;clear A8 f8 fA e0;go_upto_region 17 with fail;generalize hw9:World.setCell _ _ _=w9;have f89:Fr [W] w8 w9:=by rw[<-hw9];exact (Fr.refl [W] w8).setCell (by simp) _
   have hW9:w9.heap[W]?=some (.cells #[.slice ba ol bc,.slice (some ⟨lg,lo,none⟩) 1 lc,.slice a8 1 c8,.slice none 0 0] 74 (0,0)):=by have h:=qax (o:=2) (H8.out.blk HT.out.2.2.1 (by simp)) (.slice a8 1 c8);rw[hw9,<-H.l8]at h;exact h
   have f9:Fr [W] w w9:=((HT.out.1.trans H8.out).mono (by simp)).trans f89;have hx9:=f89.blk (H8.out.blk HT.out.2.1 (by simp)) (by simp;exact HT.out.2.2.2.2.2.1);have own9:=qa7 (qa7 HT.out.2.2.2.1 H8.out (by simp)) f89 (λy hy=>by
    have h1:=H.o2
    have h2:y∈blk ba:=by rw[<-qby ba out.length bc,hy];simp
    simp
    rintro rfl
    exact h1 h2)
   have rd9:lib.Rd w9 oa oc bs:=H.o3.frS f9 (λy hy=>by have:=hoW y hy;simp;omega);have lt9:∀y∈blk oa,y<w9.heap.size:=λy hy=>by have h1:=hoW y hy;have h2:=lt_of_block H.o0;have h3:=f9.size;omega
   have dec9:=HT.out.2.2.2.2.1;have H9:=zhd7 f89 hW9 f9 hx9 own9 rd9 lt9;have x0:=(Fr.drew1 [] w9).cell (show w9.cell? ⟨X,0,none⟩=some (.int .i64 k) by rw[cell_of hx9];rfl) (by simp);have x1:=(Fr.drew1 [] w9).cell (show w9.cell? ⟨X,1,none⟩=some (.slice oa bl oc) by rw[cell_of hx9];rfl) (by simp);clear hw9 f89 hW9 f9 hx9 own9 rd9 lt9 dec9 e2 z2;refine qb3 11 [(false,0),(false,1),(false,2),(false,3),(false,4),(false,6),(false,7),(true,5),(true,8),(true,9),(false,10)] [] (by kernel_rfl) (by kernel_rfl) (λ_ _ d _ _ h=>by cases d<;>exact h) ?_;simp only[qak,qam,qaz,qa0,qad,qaj,qbk];refine qb0 7 rfl ?_;simp only[qah,qan,qad,qaj,qak,qam];repeat (go_big_quiet_step (fail))
   refine wpQuiet_nil ?_;refine qb6 rfl ?_;intro X' hX';go_wp2_with (go_at_call 10;refine (qhc k bl _ hk7 (by omega)).mono ?_;rintro e w10 ⟨a10,rfl,r10,n10,f10⟩);refine hX'.out _ _ f10 ?_;clear hX' X' x0 x1;have fA:=(Fr.drew1 [] w9).trans f10;have hz:=trip.qwj oa oc bs 2 w10 (H9.o5.fr fA) (by rw[<-H.o6];omega) (λy hy=>qat (H9.l6 y hy) fA.size);rw[<-H.o6]at hz;have HZ:=zhd hz;clear hz;refine qb6 rfl ?_;intro X' hX';go_wp2_with (go_at_call 67;refine HZ.out.mono ?_;rintro e w11 ⟨r,hr,a11,rfl,r11,n11,f11⟩);refine hX'.out _ _ f11 ?_;clear hX' X' HZ;have hzl:(defl.zlibOf 2 r bs).length=r.length+6:=by unfold defl.zlibOf;simp[sums.qdg]
   have hrl:=hr.1;rw[<-H.o6]at hrl;have hdl:(hd k bl).length≤5:=zdt (by omega);obtain⟨zs,hzs⟩:=zex (defl.zlibOf 2 r bs);obtain⟨hs,hhs⟩:=zex (hd k bl);rw[<-hzs]at r11 hzl ⊢;rw[<-hhs]at r10 hdl ⊢;have c10:=(r10.fr f11).cs;have n10:=r10.nil;have c11:=r11.cs;have n11:=r11.nil;refine qb6 rfl ?_;intro X' hX';refine qin sliceU8 _ _ rfl a10 hs.length hs.length (hs.map bv) rfl c10 (by simp) (qae _) n10 a11 zs.length zs.length (zs.map bv) rfl c11 (by simp) (by omega) (by omega) (by unfold maxLen;omega) ?_;intro c12 w12 A12;refine hX'.out _ _ A12.fr ?_;clear hX' X' c10 n10 c11 n11;simp only[Act.put,qbb,qbx,qbq];refine qb0 1 rfl ?_;simp only[qah,qan,qad,qaj,qak,qam];repeat (go_big_quiet_step (fail))
   refine wpQuiet_nil ?_;refine qcq ?_;obtain⟨B,hB⟩:=zex w11.heap.size;obtain⟨fl,hfl⟩:=zex (hs.length+zs.length);rw[<-hB,<-hfl]at A12 ⊢;have f12:Fr [] w9 w12:=((fA.trans f11).trans A12.fr);have o12:=A12.own;rw[<-qbe]at o12;have H12:=zhd8 f12 o12 hB hfl hr hzs hhs (show hs.length+zs.length=(hs++zs).length by simp);have hflb:fl≤500000:=by omega
   have hBw:w.heap.size≤B:=by have h1:=H9.o2.size;have h2:=(fA.trans f11).size;omega
   have hc12:=A12.max;have hlc:=A12.le;clear A12 f12 o12 hB hfl hr hzs hhs fA f11 r11 r10 hdl hrl hzl f10;obtain⟨d,hmade,hdis⟩:=HT.out.2.2.2.2.1;have hW12:=H12.o0.blk H9.o1 (by simp);have e0:=cell_of hW12 0;have e3:=cell_of hW12 3;have z0:=qau hW12 0;have z3:=qau hW12 3;simp only[qag,qac,qaf]at e0 e3;have own12:=qa7 H9.o4 H12.o0 (by simp);rcases hdis with⟨hlt,hF7,da,hG7,hrd,hnd⟩|⟨hle,hF7,hG7⟩
   ·have hF12:=H12.o0.blk (H9.o0.blk (H8.out.blk hF7 (by simp)) (by simp;exact HT.out.2.2.2.2.2.2.1)) (by simp);have hG12:=H12.o0.blk (H9.o0.blk (H8.out.blk hG7 (by simp)) (by simp;exact HT.out.2.2.2.2.2.2.2)) (by simp);have f0:=cell_of hF12 0;have g0:=cell_of hG12 0;simp only[qag,qac]at f0 g0;have hW4:=lt_of_block (HT.out.1.blk H.o0 (by simp));have rdd:lib.Rd w12 da d.length d:=((hrd.fr H8.out).frS H9.o0 (λy hy=>by
     have h1:=(hnd y hy).1
     have h2:=lt_of_block H.o0
     have h3:=H3.o3.size
     simp
     have h4:=hw4
     omega)).fr H12.o0
    have ldd:∀y∈blk da,y<w12.heap.size:=λy hy=>by have h1:=(hnd y hy).2;have h2:=H8.out.size;have h3:=H9.o0.size;have h4:=H12.o0.size;omega
    obtain⟨dl,hdl⟩:=zex d.length;have hdb:dl≤65536:=by have:=H.o6;omega
    rw[<-hdl]at g0;have HX:=zhd7 hmade hlt hW12 own12 rdd ldd hdl;clear hmade hlt hF7 hG7 hrd hnd hF12 hG12 rdd ldd hdl hW12 own12 hW4;obtain⟨sb,hsb⟩:=zex (str (hexb xid));have hta:∀w:World,(Instr.typeAssert (.iface 124 (.string sb)) 98 123 true).run Tryz.prog w = .ok (.tuple #[.int .i64 0,.bool false]) w:=λ_=>by kernel_rfl
    have htb:∀w:World,(Instr.typeAssert (.iface 124 (.string sb)) 98 124 true).run Tryz.prog w = .ok (.tuple #[.string sb,.bool true]) w:=λ_=>by kernel_rfl
    have hun:=λwz=>qwt xid wz (by omega)
    rw[<-hsb]at f0 hun;have HU:=zhd hun;clear hun hsb;go_upto_region 29 with fail;clear hta htb;go_upto_region 30 with (go_at_call 68;refine (HU.out _).mono ?_;rintro e w13 ⟨a13,c13,rfl,h13⟩);try rw[hx20]
    have g0':=h13.fr.cell g0 (by simp);have h7l:(hd 7 dl).length≤5:=zdt (by omega);obtain⟨h7,hh7⟩:=zex (hd 7 dl);rw[<-hh7]at h7l;have r13:=(qc1 h13.own).1;have hle13:=r13.le;rw[hx20]at hle13;have H13:=zhd5 h13.fr r13 hh7 hdb hx20;have hhead:=λwz=>qhc 7 dl wz (by decide) (by omega)
    rw[<-hh7]at hhead;clear h13 r13 hh7 g0;go_upto_region 31 with (first
     | (go_at_call 10;refine (hhead _).mono ?_;rintro e w14 ⟨a14,rfl,r14,n14,f14⟩;have H14:=zhd2 r14 f14;have g0':=f14.cell g0' (by simp);clear r14 n14 f14)
     | (at_builtin;refine qd6 sliceU8 rfl _ _ rfl a14 h7.length h7.length (h7.map bv) rfl H14.o0.cs (by rw[qap,qce]) (qae _) H14.o0.nil a13 20 c13 (xid.map bv) rfl (H13.o1.fr H14.l1).cs (by rw[qap];exact H13.l4) (by omega) (by omega) (by unfold maxLen;omega) ?_;intro c15 w15 A15;have H15:=zhd A15;clear A15))
    obtain⟨D,hD5⟩:=zex w14.heap.size;have A15:=H15.out;rw[<-hD5]at A15 ⊢;have f15:Fr [] w12 w15:=(H13.o0.trans H14.l1).trans A15.fr;have g15:=A15.fr.cell g0' (by simp);have hDw:w12.heap.size≤D:=by rw[hD5];exact (H13.o0.trans H14.l1).size
    have hz:=trip.qwj da dl d 2 w15 (by rw[HX.out.2.2.2.2.2.2];exact HX.out.2.2.2.2.1.fr f15) (by rw[<-HX.out.2.2.2.2.2.2];omega) (λy hy=>qat (HX.out.2.2.2.2.2.1 y hy) f15.size);rw[<-HX.out.2.2.2.2.2.2]at hz;have hmax15:=A15.max;have H16:=zhd4 A15.own f15 hDw hz;clear A15 f15 hDw hz hhead H15 hD5 g0';go_upto_region 32 with (first
     | (go_at_call 67;refine H16.l3.mono ?_;rintro e w16 ⟨r2,hr2,a16,rfl,r16,n16,f16⟩;have H17:=zhd3 r16 f16 hr2;have hz2:(defl.zlibOf 2 r2 d).length≤400000:=(by have h1:=hr2.1;rw[<-HX.out.2.2.2.2.2.2]at h1;have h2:(defl.zlibOf 2 r2 d).length=r2.length+6:=(by unfold defl.zlibOf;simp[sums.qdg]);omega);clear r16 n16 f16 hr2)
     | (at_builtin;refine qba sliceU8 rfl _ _ rfl (.slice (some ⟨D,0,none⟩) (h7.length+20) c15) (h7.length+20) (h7.map bv++xid.map bv) [D] rfl rfl (qa7 H16.o0 H17.o1 (by simp)) a16 (defl.zlibOf 2 r2 d).length (defl.zlibOf 2 r2 d).length ((defl.zlibOf 2 r2 d).map bv) rfl (qae _) H17.o0.nil H17.o0.cs (by simp) (qc0 _) (by omega) (by unfold maxLen;omega) ?_;intro a17 c17 w17 A17;have H18:=zhd A17;clear A17))
    have A17:=H18.out;have f17:Fr [] w12 w17:=(H16.o1.trans H17.o1).step A17.fr (λy hy=>by simp at hy;right;rw[hy];exact H16.o2);have o17:=A17.own;rw[<-qbe,<-qbe]at o17;have oF17:=qa7 H12.o1 f17 (by simp);obtain⟨nn,hnn⟩:=zex (h7.length+20+(defl.zlibOf 2 r2 d).length);rw[<-hnn]at o17 ⊢;have hln:nn=(h7++xid++defl.zlibOf 2 r2 d).length:=by rw[hnn];simp[hx20];omega
    have hnb:nn≤500000:=by omega
    have H19:=zhd4 f17 o17 oF17 hln;clear A17 f17 o17 oF17 hln hnn;go_upto_if 192 with fail;go_cut [15,16] from 193 to 193 (λs15 s16 wz=>∃(ea:Option Addr) (el ec:Nat) (dn:Int) (E:List UInt8),s15 = .slice ea el ec∧s16 = .int .i64 dn∧el≤500000∧el=E.length∧WForm k xid bs2 bs E∧Fr [] w12 wz∧lib.Rd wz ea ec E)
    case first=>
     have hmadeS:=HX.o0;by_cases hge:fl≤nn
     ·have g1:decide ((fl:Int)≤(nn:Int))=true:=by simp;omega
      have g2:decide (fl≤nn)=true:=by simpa using hge
      go_wp2;go_meet;exact⟨some ⟨B,0,none⟩,fl,c12,0,hs++zs,rfl,rfl,hflb,H12.o3.trans H12.l7,.inl ⟨r,H12.o4,by rw[H12.o5,H12.o6,H.o6]⟩,H19.o0,(qc1 H19.o2).1⟩
     ·have g1:decide ((fl:Int)≤(nn:Int))=false:=by simp;omega
      have g2:decide (fl≤nn)=false:=by simpa using hge
      go_wp2;go_meet;exact⟨a17,nn,c17,1,h7++xid++defl.zlibOf 2 r2 d,rfl,rfl,hnb,H19.l3,.inr ⟨d,r2,HX.o0,HX.o1,H17.l2,by rw[H13.o2,HX.out.2.2.2.2.2.2]⟩,H19.o0,(qc1 H19.o1).1⟩
    case rest=>
     obtain⟨ea,el,ec,dn,E,rfl,rfl,helb,hele,hform,f17,rE⟩:=hcut;have hWc:=f17.blk HX.o2 (by simp);have ownc:=qa7 HX.l3.1 f17 (by simp);have e0:=cell_of hWc 0;have e3:=cell_of hWc 3;simp only[qag,qac,qaf]at e0 e3;have hrle:el≤ec:=by rw[hele];exact rE.le
     have hrn:=rE.nil;have HC:=zhd5 hele hform hWc ownc rE;have HF:=zhd f17;clear hele hform hWc ownc rE f17 f0 g15 z0 z3;go_upto_region 34 with fail;obtain⟨S,hS⟩:=zex (blk ba);have hWS:W∉S:=by rw[hS];exact H.o2
     have fd:=Fr.drew1 [] wc;have ownD:=qa7 HC.o3 fd (by simp);have rF:=HC.l4.fr fd;have q0:∀x,(sup S wc.drew x).cell? ⟨W,0,none⟩=some (.slice ba ol bc):=λx=>(qcm S wc.drew x).cell (fd.cell e0 (by simp)) hWS
     have q3:∀x,(sup S wc.drew x).cell? ⟨W,3,none⟩=some (.slice none 0 0):=λx=>(qcm S wc.drew x).cell (fd.cell e3 (by simp)) hWS
     rw[<-H.l8]at ownD;have HS:=zhd4 hS hWS ownD rF;clear hS hWS ownD rF e0 e3 fd;refine qmi 15 1 (.pointer (some ⟨W,0,none⟩)) (.one false 0 (.one false 2 (.one false 3 (.one false 4 (.one false 5 (.one false 6 (.one false 8 (.one false 9 (.one false 10 (.one false 11 (.one false 12 (.two 7 (.one true 13 (.one true 14 .done)) 13 (.one true 7 (.one true 14 .done)))))))))))))) S (by kernel_rfl) (by kernel_rfl) (λ_ _ d _ _ h=>by cases d<;>exact h) (.inl ⟨by rfl,λ_=>by rfl⟩) ?_;simp only[OT.map,qaz,qa0,qad,qaj,qbk,Act.put,qbb,qbx,qbq];refine quc 11 ?_;simp only[OT.quiets,OT.behind];repeat (go_big_quiet_step (fail))
     refine wpQuiet_nil ?_;clear q0 q3;refine qub rfl rfl ?_ ?_
     ·intro X' hX';refine qda sliceU8 _ _ rfl (.slice ba ol bc) ol (out.map bv) S rfl (by rw[qby,HS.o0]) HS.o2 ea el ec (E.map bv) rfl hrle hrn HS.l3.cs (by rw[qap,<-HC.o0,qce]) (qc0 _) (by omega) (by unfold maxLen;omega) ?_;intro a13 c13 w13 A13;refine hX'.out _ _ A13.fr ?_;clear hX' X';simp only[Act.put,qbb,qbx,qbq];refine qgf rfl ?_;intro X' hX';go_wp2;refine hX'.out _ _ ((Fr.refl _ w13).alloc _) ?_;clear hX' X';have cI:Cs (w13.alloc (.cells #[.int .i64 dn] 3)) (some ⟨w13.heap.size,0,none⟩) [.int .i64 dn]:=qdp _ _ _ 3 (qay w13 _);have f13:=(Fr.refl [] w13).alloc (.cells #[.int .i64 dn] 3);refine qgf rfl ?_;intro X' hX';refine qda qdd _ _ rfl (.slice none 0 0) 0 [] [] rfl rfl (qch _ _ _ _) (some ⟨_,0,none⟩) 1 1 [.int .i64 dn] rfl (by decide) (by simp) cI rfl (by simp[Value.oneCell']) (by omega) (by unfold maxLen;omega) ?_;intro a15 c15 w15 A15;refine hX'.out _ _ (A15.fr.mono (by simp)) ?_;clear hX' X';simp only[Act.put,qbb,qbx,qbq];refine qjm ?_;have f15:Fr S wc w15:=((((Fr.drew1 [] wc).mono (by simp)).trans A13.fr).trans (f13.mono (by simp))).trans (A15.fr.mono (by simp));have own15:=qa7 (qa7 A13.own f13 (by simp)) A15.fr (by simp);have hat:∀y∈blk a13,y∈blk ba∨wc.heap.size≤y:=λy hy=>by
       rw[<-HS.o0];rcases A13.at_ y hy with h|h
       ·exact .inl h
       ·exact .inr (by rw[h];exact qae _)
      clear cI;have hW15:=f15.blk HC.o2 HS.o1;have e0:=cell_of hW15 0;have z0:=qau hW15 0;have h16:=qax (o:=0) hW15 (.slice a13 (ol+el) c13);have e3:=cell_of h16 3;have e4:=cell_of h16 0;have z3:=qau h16 3;simp only[qag,qac,qaf,qbb,qbq]at e0 e3 e4;have HE:=zhd3 f15 own15 hat;clear f15 own15 hat h16 hW15 A13 A15 f13;go_wp2;have hol':=H.l8;have hfE:=HC.o0;obtain⟨f15,own15,hat⟩:=HE.out;have hWw:=HC.o2;have hform:=HC.o1;have hEl:E.length≤500000:=by rw[<-hfE];exact helb
      rw[hol',hfE];rw[hol',hfE]at own15;rw[hol']at hWw;rw[<-qbe]at own15;rw[HS.o0]at f15;refine bodyPost_end (results_none rfl _ _ _) rfl ?_;exact (qi8 (H9.o2.trans ((H12.o0.trans HF.out).mono (by simp))) hWw H.o2 f15 a13 c13 own15 hat hform hEl _)
     ·intro X' hX';go_wp2;refine hX'.out _ _ ((Fr.refl _ wc.drew).alloc _) ?_;clear hX' X';have fA:=(Fr.refl [] wc.drew).alloc (.cells #[.int .i64 dn] 3);have cI0:Cs (wc.drew.alloc (.cells #[.int .i64 dn] 3)) (some ⟨wc.drew.heap.size,0,none⟩) [.int .i64 dn]:=qdp _ _ _ 3 (qay wc.drew _);have ownA:=qa7 HS.o2 fA (by simp);have csF:=HS.l3.cs.fr fA (by simp);have nS:∀y∈blk (some ⟨wc.drew.heap.size,0,none⟩),y∉S:=λy hy hS=>by rw[HS.o0]at hS;have h1:=qdu HC.o3 (qdw hS);simp[blk]at hy;have h2:wc.drew.heap.size=wc.heap.size:=rfl;omega
      refine qgf rfl ?_;intro X' hX';refine qda sliceU8 _ _ rfl (.slice ba ol bc) ol (out.map bv) S rfl (by rw[qby,HS.o0]) ownA ea el ec (E.map bv) rfl hrle hrn csF (by rw[qap,<-HC.o0,qce]) (qc0 _) (by omega) (by unfold maxLen;omega) ?_;intro a13 c13 w13 A13;refine hX'.out _ _ A13.fr ?_;clear hX' X';simp only[Act.put,qbb,qbx,qbq];have cI:=cI0.fr A13.fr nS;clear cI0 ownA csF nS;refine qgf rfl ?_;intro X' hX';refine qda qdd _ _ rfl (.slice none 0 0) 0 [] [] rfl rfl (qch _ _ _ _) (some ⟨_,0,none⟩) 1 1 [.int .i64 dn] rfl (by decide) (by simp) cI rfl (by simp[Value.oneCell']) (by omega) (by unfold maxLen;omega) ?_;intro a15 c15 w15 A15;refine hX'.out _ _ (A15.fr.mono (by simp)) ?_;clear hX' X';simp only[Act.put,qbb,qbx,qbq];refine qjm ?_;have f15:Fr S wc w15:=((((Fr.drew1 [] wc).trans fA).mono (by simp)).trans A13.fr).trans (A15.fr.mono (by simp));have own15:=qa7 A13.own A15.fr (by simp);have hat:∀y∈blk a13,y∈blk ba∨wc.heap.size≤y:=λy hy=>by
       rw[<-HS.o0];rcases A13.at_ y hy with h|h
       ·exact .inl h
       ·have h2:=((Fr.drew1 [] wc).trans fA).size;exact .inr (by rw[h];exact h2)
      clear cI;have hW15:=f15.blk HC.o2 HS.o1;have e0:=cell_of hW15 0;have z0:=qau hW15 0;have h16:=qax (o:=0) hW15 (.slice a13 (ol+el) c13);have e3:=cell_of h16 3;have e4:=cell_of h16 0;have z3:=qau h16 3;simp only[qag,qac,qaf,qbb,qbq]at e0 e3 e4;have HE:=zhd3 f15 own15 hat;clear f15 own15 hat h16 hW15 A13 A15 fA;go_wp2;have hol':=H.l8;have hfE:=HC.o0;obtain⟨f15,own15,hat⟩:=HE.out;have hWw:=HC.o2;have hform:=HC.o1;have hEl:E.length≤500000:=by rw[<-hfE];exact helb
      rw[hol',hfE];rw[hol',hfE]at own15;rw[hol']at hWw;rw[<-qbe]at own15;rw[HS.o0]at f15;refine bodyPost_end (results_none rfl _ _ _) rfl ?_;exact (qi8 (H9.o2.trans ((H12.o0.trans HF.out).mono (by simp))) hWw H.o2 f15 a13 c13 own15 hat hform hEl _)
   ·have f0:=((H12.o0.blk (H9.o0.blk (H8.out.blk hF7 (by simp)) (by simp;exact HT.out.2.2.2.2.2.2.1)) (by simp)));have f0:=cell_of f0 0;simp only[qag,qac,qaf]at f0;have HX:=zhd4 hmade hle hW12 own12;clear hmade hle hF7 hG7 hW12 own12;go_upto_region 19 with fail;obtain⟨S,hS⟩:=zex (blk ba);have hWS:W∉S:=by rw[hS];exact H.o2
    have fd:=Fr.drew1 [] w12;have ownD:=qa7 HX.l3 fd (by simp);have oF:=qa7 H12.o1 fd (by simp);obtain⟨rF,_⟩:=qc1 oF;have q0:∀x,(sup S w12.drew x).cell? ⟨W,0,none⟩=some (.slice ba ol bc):=λx=>(qcm S w12.drew x).cell (fd.cell e0 (by simp)) hWS
    have q3:∀x,(sup S w12.drew x).cell? ⟨W,3,none⟩=some (.slice none 0 0):=λx=>(qcm S w12.drew x).cell (fd.cell e3 (by simp)) hWS
    rw[<-H.l8]at ownD;have HS:=zhd4 hS hWS ownD rF;clear hS hWS ownD oF rF e0 e3 fd;refine qmi 14 1 (.pointer (some ⟨W,0,none⟩)) (.one false 0 (.one false 2 (.one false 3 (.one false 4 (.one false 5 (.one false 6 (.one false 8 (.one false 9 (.one false 10 (.one false 11 (.two 7 (.one true 12 (.one true 13 .done)) 12 (.one true 7 (.one true 13 .done))))))))))))) S (by kernel_rfl) (by kernel_rfl) (λ_ _ d _ _ h=>by cases d<;>exact h) (.inl ⟨by rfl,λ_=>by rfl⟩) ?_;simp only[OT.map,qaz,qa0,qad,qaj,qbk,Act.put,qbb,qbx,qbq];refine quc 10 ?_;simp only[OT.quiets,OT.behind];repeat (go_big_quiet_step (fail))
    refine wpQuiet_nil ?_;clear q0 q3;refine qub rfl rfl ?_ ?_
    ·intro X' hX';refine qda sliceU8 _ _ rfl (.slice ba ol bc) ol (out.map bv) S rfl (by rw[qby,HS.o0]) HS.o2 (some ⟨B,0,none⟩) fl c12 ((hs++zs).map bv) rfl (by omega) (by simp) HS.l3.cs (by rw[qap,<-H12.l7,<-H12.o3,qce]) (qc0 _) (by omega) (by unfold maxLen;omega) ?_;intro a13 c13 w13 A13;refine hX'.out _ _ A13.fr ?_;clear hX' X';simp only[Act.put,qbb,qbx,qbq];refine qgf rfl ?_;intro X' hX';go_wp2;refine hX'.out _ _ ((Fr.refl _ w13).alloc _) ?_;clear hX' X';have cI:Cs (w13.alloc (.cells #[.int .i64 0] 3)) (some ⟨w13.heap.size,0,none⟩) [.int .i64 0]:=qdp _ _ _ 3 (qay w13 _);have f13:=(Fr.refl [] w13).alloc (.cells #[.int .i64 0] 3);refine qgf rfl ?_;intro X' hX';refine qda qdd _ _ rfl (.slice none 0 0) 0 [] [] rfl rfl (qch _ _ _ _) (some ⟨_,0,none⟩) 1 1 [.int .i64 0] rfl (by decide) (by simp) cI rfl (by simp[Value.oneCell']) (by omega) (by unfold maxLen;omega) ?_;intro a15 c15 w15 A15;refine hX'.out _ _ (A15.fr.mono (by simp)) ?_;clear hX' X';simp only[Act.put,qbb,qbx,qbq];refine qjm ?_;have f15:Fr S w12 w15:=((((Fr.drew1 [] w12).mono (by simp)).trans A13.fr).trans (f13.mono (by simp))).trans (A15.fr.mono (by simp));have own15:=qa7 (qa7 A13.own f13 (by simp)) A15.fr (by simp);have hat:∀y∈blk a13,y∈blk ba∨w12.heap.size≤y:=λy hy=>by
      rw[<-HS.o0];rcases A13.at_ y hy with h|h
      ·exact .inl h
      ·exact .inr (by rw[h];exact qae _)
     clear cI;have hW15:=f15.blk HX.o2 HS.o1;have e0:=cell_of hW15 0;have z0:=qau hW15 0;have h16:=qax (o:=0) hW15 (.slice a13 (ol+fl) c13);have e3:=cell_of h16 3;have e4:=cell_of h16 0;have z3:=qau h16 3;simp only[qag,qac,qaf,qbb,qbq]at e0 e3 e4;have HE:=zhd3 f15 own15 hat;clear f15 own15 hat h16 hW15 A13 A15 f13;go_wp2;have hol':=H.l8;have hfE:fl=(hs++zs).length:=H12.o3.trans H12.l7;obtain⟨f15,own15,hat⟩:=HE.out;have hWw:=HX.o2;have hform:WForm k xid bs2 bs (hs++zs):=.inl ⟨r,H12.o4,by rw[H12.o5,H12.o6,H.o6]⟩;have hEl:(hs++zs).length≤500000:=by rw[<-hfE];exact hflb
     rw[hol',hfE];rw[hol',hfE]at own15;rw[hol']at hWw;rw[<-qbe]at own15;rw[HS.o0]at f15;refine bodyPost_end (results_none rfl _ _ _) rfl ?_;exact (qi8 (H9.o2.trans (H12.o0.mono (by simp))) hWw H.o2 f15 a13 c13 own15 hat hform hEl _)
    ·intro X' hX';go_wp2;refine hX'.out _ _ ((Fr.refl _ w12.drew).alloc _) ?_;clear hX' X';have fA:=(Fr.refl [] w12.drew).alloc (.cells #[.int .i64 0] 3);have cI0:Cs (w12.drew.alloc (.cells #[.int .i64 0] 3)) (some ⟨w12.drew.heap.size,0,none⟩) [.int .i64 0]:=qdp _ _ _ 3 (qay w12.drew _);have ownA:=qa7 HS.o2 fA (by simp);have csF:=HS.l3.cs.fr fA (by simp);have nS:∀y∈blk (some ⟨w12.drew.heap.size,0,none⟩),y∉S:=λy hy hS=>by rw[HS.o0]at hS;have h1:=qdu HX.l3 (qdw hS);simp[blk]at hy;have h2:w12.drew.heap.size=w12.heap.size:=rfl;omega
     refine qgf rfl ?_;intro X' hX';refine qda sliceU8 _ _ rfl (.slice ba ol bc) ol (out.map bv) S rfl (by rw[qby,HS.o0]) ownA (some ⟨B,0,none⟩) fl c12 ((hs++zs).map bv) rfl (by omega) (by simp) csF (by rw[qap,<-H12.l7,<-H12.o3,qce]) (qc0 _) (by omega) (by unfold maxLen;omega) ?_;intro a13 c13 w13 A13;refine hX'.out _ _ A13.fr ?_;clear hX' X';simp only[Act.put,qbb,qbx,qbq];have cI:=cI0.fr A13.fr nS;clear cI0 ownA csF nS;refine qgf rfl ?_;intro X' hX';refine qda qdd _ _ rfl (.slice none 0 0) 0 [] [] rfl rfl (qch _ _ _ _) (some ⟨_,0,none⟩) 1 1 [.int .i64 0] rfl (by decide) (by simp) cI rfl (by simp[Value.oneCell']) (by omega) (by unfold maxLen;omega) ?_;intro a15 c15 w15 A15;refine hX'.out _ _ (A15.fr.mono (by simp)) ?_;clear hX' X';simp only[Act.put,qbb,qbx,qbq];refine qjm ?_;have f15:Fr S w12 w15:=((((Fr.drew1 [] w12).trans fA).mono (by simp)).trans A13.fr).trans (A15.fr.mono (by simp));have own15:=qa7 A13.own A15.fr (by simp);have hat:∀y∈blk a13,y∈blk ba∨w12.heap.size≤y:=λy hy=>by
      rw[<-HS.o0];rcases A13.at_ y hy with h|h
      ·exact .inl h
      ·have h2:=((Fr.drew1 [] w12).trans fA).size;exact .inr (by rw[h];exact h2)
     clear cI;have hW15:=f15.blk HX.o2 HS.o1;have e0:=cell_of hW15 0;have z0:=qau hW15 0;have h16:=qax (o:=0) hW15 (.slice a13 (ol+fl) c13);have e3:=cell_of h16 3;have e4:=cell_of h16 0;have z3:=qau h16 3;simp only[qag,qac,qaf,qbb,qbq]at e0 e3 e4;have HE:=zhd3 f15 own15 hat;clear f15 own15 hat h16 hW15 A13 A15 fA;go_wp2;have hol':=H.l8;have hfE:fl=(hs++zs).length:=H12.o3.trans H12.l7;obtain⟨f15,own15,hat⟩:=HE.out;have hWw:=HX.o2;have hform:WForm k xid bs2 bs (hs++zs):=.inl ⟨r,H12.o4,by rw[H12.o5,H12.o6,H.o6]⟩;have hEl:(hs++zs).length≤500000:=by rw[<-hfE];exact hflb
     rw[hol',hfE];rw[hol',hfE]at own15;rw[hol']at hWw;rw[<-qbe]at own15;rw[HS.o0]at f15;refine bodyPost_end (results_none rfl _ _ _) rfl ?_;exact (qi8 (H9.o2.trans (H12.o0.mono (by simp))) hWw H.o2 f15 a13 c13 own15 hat hform hEl _)
set_option maxRecDepth 100000
theorem seen1 (C B n:Nat) (D:DataW Unit) (m:OM) (w:World) (hC:w.heap[C]?=some (.cells #[.map (some B)] 75 (0,0))) (hs:Seen w B n D) (hid:m.1.id.length≤1000000) (hn:Maps.has D (.string m.1.id)=false) :
  Calls Tryz.prog 33 #[.agg (objV m.1 m.2.1 m.2.2),.pointer (some ⟨C,0,none⟩)] w λe w2=>e = .returned (.bool false)∧Fr [] w w2:=by
 obtain⟨⟨kd,bs,id,at_,crc⟩,ba,bc⟩:=m;have hf1:∀w',Fr [] w w'→(Instr.lookup 75 (.map (some B)) (.string (str id)) false).run Tryz.prog w' = .ok (.bool false) w':=λw' f=>(show Seen w' B n D from qeg hs f (by simp)).not id hid hn
 have c0:=cell_of hC 0;simp only[qag,qac]at c0;unfold objV;simp only;obtain⟨bl,hbl⟩:=zex bs.length;rw[<-hbl];clear hbl hC hs hn;go_enter Tryz.func33,Tryz.ntmps33;go_upto_region 1 with fail;generalize hw1:World.alloc _ _=w1;obtain⟨X,hX⟩:=zex w.heap.size;rw[<-hX];have hx1:w1.heap[X]?=some (.cells #[.int .i64 kd,.slice ba bl bc,.string (str id),.int .i64 at_,.int .u32 crc] 34 (0,0)):=by rw[<-hw1,hX];exact qay w _
 have f1:Fr [] w w1:=by rw[<-hw1];exact (Fr.refl [] w).alloc _
 have x2:=cell_of hx1 2;simp only[qag,qac,qaf]at x2;have hlk:=hf1 w1 f1;have c0:=f1.cell c0 (by simp);have H1:=zhd f1;clear hw1 hX f1 hx1 hf1;go_wp2;go_ret;exact⟨rfl,H1.out⟩
def head1:List UInt8:=[80,65,67,75,0,0,0,2,0,0,0,1]
def PackE (w:World) (k:Nat) (xid base text:List UInt8) (e:Ending) (w':World):Prop:=
 ∃E,WForm k xid base text E∧E.length≤500000∧NewBytes w (head1++E++sha.sha1 (head1++E)) e w'
theorem qu1 (la ta:Option Addr) (lc tc:Nat) (m x:OM) (k:Nat) (xid:List UInt8) (mm:Int) (w:World) (hl:ORow w la lc [m]) (ht:ORow w ta tc [x]) (hp:obj.Pw w)
  (hgm:OkO m.1) (hgx:OkO x.1) (hne:m.1.id≠x.1.id) (hml:m.1.id.length≤1000) (hmk:m.1.kind=(k:Nat)) (hxk:x.1.kind=(k:Nat)) (hk7:k≤7)
  (hxid:x.1.id=hexb xid) (hx20:xid.length=20) (hm:w.cell? ⟨0,0,none⟩=some (.int .i64 mm)) :
  Calls Tryz.prog 15 #[.slice la 1 lc,.slice ta 1 tc] w (PackE w k xid x.1.body m.1.body):=by
 have hmm:=λw'=>run_makeMap (P:=Tryz.prog) 75 w'
 have hcv:∀w':World,(convert 23 23 (.slice (some ⟨w'.heap.size,0,none⟩) 8 8)).run Tryz.prog (w'.alloc (.cells #[.int .u8 80,.int .u8 65,.int .u8 67,.int .u8 75,.int .u8 0,.int .u8 0,.int .u8 0,.int .u8 2] 5)) = .ok (.slice (some ⟨w'.heap.size,0,none⟩) 8 8) (w'.alloc (.cells #[.int .u8 80,.int .u8 65,.int .u8 67,.int .u8 75,.int .u8 0,.int .u8 0,.int .u8 0,.int .u8 2] 5 (8,9))):=λw'=>Lib.run_convert_bytes_const (P:=Tryz.prog) w' 23 5 #[.int .u8 80,.int .u8 65,.int .u8 67,.int .u8 75,.int .u8 0,.int .u8 0,.int .u8 0,.int .u8 2] 8 8 Tryz.underlying23 Tryz.underlying5
 have hr1:=qn5 la lc [m] w hl (by simp) (by simpa using hgm) hp;have H:=zhd13 hl ht hp hgm hgx hne hmk hxk hxid hx20 hm hr1 hml;clear hl ht hp hgm hgx hne hmk hxk hxid hx20 hm hr1 hml;go_enter Tryz.func15,Tryz.ntmps15;go_upto_region 2 with (first
  | (go_at_call 31;refine H.o11.mono ?_;rintro e w1 ⟨a1,c1,rfl,M1⟩;have H1:=zhd (show ORow w1 a1 c1 [m] from ⟨qhe M1.own,M1.le,M1.max,M1.nil,λm' hm'=>(H.o0.rd m' hm').fr M1.fr⟩);have HF1:=zhd M1.fr;clear M1)
  | (go_at_call 17;refine (qxw a1 c1 m _ H1.out H.o3.2.1 (qar H.l12 (by decide))).mono ?_;rintro e w2 ⟨a2,b2,rfl,O2,n2,m2,f2⟩;have H2:=zhd4 O2 n2 m2 f2;clear O2 n2 m2 f2))
 obtain⟨P,w3,hP,hw3,f23,q3⟩:∃P w3,P=w2.heap.size∧w3=w2.alloc (.cells #[.slice none 0 0,.slice a2 1 1,.slice none 0 0,.slice none 0 0] 74)∧Fr [] w2 w3∧w3.heap[P]?=some (.cells #[.slice none 0 0,.slice a2 1 1,.slice none 0 0,.slice none 0 0] 74 (0,0)):=⟨_,_,rfl,rfl,(Fr.refl [] w2).alloc _,qay w2 _⟩;have fw2:=HF1.out.trans H2.l3;have hPw:w.heap.size≤P:=by rw[hP];exact fw2.size
 have hP3:P<w3.heap.size:=lt_of_block q3;have hP2:w2.heap.size≤P:=by rw[hP];exact qae _
 have hb2:∀y∈blk b2,y<P:=λy hy=>by rw[hP];exact (H2.o2 y hy).2
 rw[<-hw3,<-hP];have H3:=zhd4 f23 fw2 q3 hb2;have l0:=cell_of q3 1;have p0:=cell_of q3 0;simp only[qag,qac,qaf]at l0 p0;clear hw3 hP f23 fw2 hb2 q3;go_upto_region 3 with fail;clear l0 p0;have c8:Cs ((w3.alloc (.cells #[.int .u8 80,.int .u8 65,.int .u8 67,.int .u8 75,.int .u8 0,.int .u8 0,.int .u8 0,.int .u8 2] 5 (8,9))).alloc (.cells #[.int .u8 0,.int .u8 0,.int .u8 0,.int .u8 1] 5)) (some ⟨w3.heap.size,0,none⟩) [.int .u8 80,.int .u8 65,.int .u8 67,.int .u8 75,.int .u8 0,.int .u8 0,.int .u8 0,.int .u8 2]:=by have:=qcx (.cells #[.int .u8 0,.int .u8 0,.int .u8 0,.int .u8 1] 5) (qay w3 (.cells #[.int .u8 80,.int .u8 65,.int .u8 67,.int .u8 75,.int .u8 0,.int .u8 0,.int .u8 0,.int .u8 2] 5 (8,9)));exact .inr ⟨w3.heap.size,0,rfl,λj u hj=>by rw[cell_of this];simpa using hj⟩
 have c4:Cs ((w3.alloc (.cells #[.int .u8 80,.int .u8 65,.int .u8 67,.int .u8 75,.int .u8 0,.int .u8 0,.int .u8 0,.int .u8 2] 5 (8,9))).alloc (.cells #[.int .u8 0,.int .u8 0,.int .u8 0,.int .u8 1] 5)) (some ⟨w3.heap.size+1,0,none⟩) [.int .u8 0,.int .u8 0,.int .u8 0,.int .u8 1]:=by have:=qay (w3.alloc (.cells #[.int .u8 80,.int .u8 65,.int .u8 67,.int .u8 75,.int .u8 0,.int .u8 0,.int .u8 0,.int .u8 2] 5 (8,9))) (.cells #[.int .u8 0,.int .u8 0,.int .u8 0,.int .u8 1] 5);rw[qa1]at this;exact .inr ⟨w3.heap.size+1,0,rfl,λj u hj=>by rw[cell_of this];simpa using hj⟩
 have fa:=((Fr.refl [] w3).alloc (.cells #[.int .u8 80,.int .u8 65,.int .u8 67,.int .u8 75,.int .u8 0,.int .u8 0,.int .u8 0,.int .u8 2] 5 (8,9))).alloc (.cells #[.int .u8 0,.int .u8 0,.int .u8 0,.int .u8 1] 5);have HO:=zhd4 c8 c4 (fa.blk H3.o2 (by simp)) fa;clear c8 c4 fa;go_upto_region 4 with (at_builtin;refine qd6 sliceU8 rfl _ _ rfl (some ⟨w3.heap.size,0,none⟩) 8 8 [.int .u8 80,.int .u8 65,.int .u8 67,.int .u8 75,.int .u8 0,.int .u8 0,.int .u8 0,.int .u8 2] rfl HO.o0 rfl (by decide) (by simp) (some ⟨w3.heap.size+1,0,none⟩) 4 4 [.int .u8 0,.int .u8 0,.int .u8 0,.int .u8 1] rfl HO.o1 rfl (by decide) (by decide) (by decide) ?_;intro c5 w4 A4;have q4:=A4.fr.blk HO.o2 (by simp);have cc:=cell_of q4 0;have zz:=qau q4 0;simp only[qag,qac]at cc;have HA:=zhd2 A4 q4;clear A4 q4);clear cc zz;obtain⟨G,hG⟩:=zex (w3.heap.size+1+1);obtain⟨w5,hw5⟩:=zex (w4.setCell ⟨P,0,none⟩ (.slice (some ⟨w3.heap.size+1+1,0,none⟩) 12 c5));rw[<-hw5,<-hG];have q5:w5.heap[P]?=some (.cells #[.slice (some ⟨G,0,none⟩) 12 c5,.slice a2 1 1,.slice none 0 0,.slice none 0 0] 74 (0,0)):=by rw[hw5,hG];exact qax HA.l1 _
 have f45:Fr [P] w4 w5:=by rw[hw5];exact (Fr.refl [P] w4).setCell (by simp) _
 have f5:Fr [P] w2 w5:=(((H3.o0.trans HO.l3).trans HA.o0.fr).mono (by simp)).trans f45;have own5:w5.ownsRow 0 5 1 (.slice (some ⟨G,0,none⟩) 12 c5) 12 (head1.map bv):=by
  have h1:=HA.o0.own;rw[qa1,qa1,<-hG]at h1;exact qa7 h1 f45 (λk hk=>by
   simp only[Value.ownBlock,qaw]at hk
   simp only[qa2]
   omega)
 have fW5:Fr [] w w5:=(HF1.out.trans H2.l3).step f5 (λy hy=>by simp at hy;right;rw[hy];exact hPw);have hPG:P∉blk (some ⟨G,0,none⟩):=by simp[blk];omega
 have hGw:∀y∈blk (some ⟨G,0,none⟩),w.heap.size≤y:=by intro y hy;simp[blk]at hy;have h1:=(HF1.out.trans H2.l3).size;have h2:=H3.o0.size;omega
 have O5:ORow w5 a2 1 [(m.1,b2,m.1.body.length)]:=⟨H2.o0.cs.fr f5 (λy hy=>by have:=(H2.o1 y hy).2;simp;have h2:=H3.o1.size;have h3:=hP2;omega),H2.o0.le,H2.o0.max,H2.o0.nil,λm' hm'=>(H2.o0.rd m' hm').frS f5 (λy hy=>by simp only[qa2]at hm';subst hm';have:=H3.l3 y hy;simp;omega)⟩;have H5:=zhd6 q5 own5 fW5 hPG hGw O5;have e1:w5.cell? ⟨P,1,none⟩=some (.slice a2 1 1):=by rw[cell_of q5];rfl
 have hPs:P<w5.heap.size:=lt_of_block q5;clear q5 f45 f5 own5 fW5 hPG hGw O5 hw5 hG HO HA hcv hP3;go_upto_region 5 with fail;generalize hw6:World.alloc _ _=w6;obtain⟨B,hB⟩:=zex w5.heap.size;obtain⟨C,hC⟩:=zex (B+1);rw[<-hB,<-hC];have s6:Seen w6 B 0 (.map []):=by have h1:=qqk w5;rw[<-hB]at h1;rw[<-hw6];exact qeg h1 ((Fr.refl [] _).alloc _) (by simp)
 have hC6:w6.heap[C]?=some (.cells #[.map (some B)] 75 (0,0)):=by have h:=qay (w5.alloc (.map #[] 0)) (.cells #[.map (some w5.heap.size)] 75);rw[qa1,<-hB,<-hC]at h;rw[<-hw6,<-hB];exact h
 have f6:Fr [] w5 w6:=by rw[<-hw6];exact ((Fr.refl [] w5).alloc _).alloc _
 have hBC:B≠C:=by omega
 have e1:=f6.cell e1 (by simp);have m6:=cell_of hC6 0;simp only[qag,qac]at m6;have hBw:w5.heap.size≤B:=by omega
 have H6:=zhd5 s6 hC6 f6 hBC hBw;have hp0:=f6.cell (show w5.cell? ⟨P,0,none⟩=some (.slice (some ⟨G,0,none⟩) 12 c5) by rw[cell_of H5.out.1];rfl) (by simp);clear s6 hC6 f6 hw6 hB hC hmm hBw;obtain⟨g,o,rfl,hc⟩:=(H5.out.2.2.2.2.2.fr H6.out.2.2.1).cell (i:=0) rfl;have c0:=hc 0 (.int .i64 m.1.kind) rfl;have c1:=hc 1 (.slice b2 m.1.body.length m.1.body.length) rfl;have c2:=hc 2 (.string (str m.1.id)) rfl;have c3:=hc 3 (.int .i64 m.1.at_) rfl;have c4:=hc 4 (.int .u32 (m.1.crc:Nat)) rfl;simp only[qj3,qbn]at c0 c1 c2 c3 c4;clear hc;obtain⟨id,hid⟩:=zex m.1.id;obtain⟨bl,hbl⟩:=zex m.1.body.length;obtain⟨kd,hkd⟩:=zex m.1.kind;obtain⟨at_,hat⟩:=zex m.1.at_;obtain⟨crc,hcrc⟩:=zex m.1.crc;rw[<-hkd]at c0;rw[<-hbl]at c1;rw[<-hid]at c2;rw[<-hat]at c3;rw[<-hcrc]at c4;have HN:=zhd2 hid hbl;clear hid hbl hkd hat hcrc;go_wp2;go_loopg [46] 1 (λk s46 wr=>(k=1∧s46 = .int .i64 0∧wr=w6)∨(k=0∧s46 = .int .i64 1∧∃n D,Seen wr B n D∧Maps.has D (.string x.1.id)=false∧Fr [B] w6 wr));case atStart=>exact .inl ⟨rfl,rfl,rfl⟩
 case round=>
  rcases hrel with⟨rfl,rfl,hwr⟩|⟨rfl,rfl,n,D,hS,hno,fB⟩
  ·have hwr:=hwr.symm;subst hwr;go_upto_region 8 with (guard_target =~ wpList _ _ _ (⟨_,Op.store _ _ _,_,_,_,_⟩::_) _ _;refine wpList_store_row rfl 34 (.tmp 9) (.tmp 49) rfl w6.heap.size #[.int .i64 kd,.slice b2 bl bl,.string (str id),.int .i64 at_,.int .u32 crc] rfl rfl 34 _ (qay _ _) infoObj rfl (by kernel_rfl) ?_);clear c0 c1 c2 c3 c4;simp only[Act.put];generalize hw7:World.setRow _ _ _=w7;obtain⟨Y,hY⟩:=zex w6.heap.size;rw[<-hY]at hw7 ⊢;have hy7:w7.heap[Y]?=some (.cells #[.int .i64 kd,.slice b2 bl bl,.string (str id),.int .i64 at_,.int .u32 crc] 34 (0,0)):=by rw[<-hw7,hY];exact setRow_heap _ _ _ _ _ _ (qay _ _)
   have f7:Fr [] w6 w7:=by rw[<-hw7,hY];exact ((Fr.refl [] w6).alloc _).setRow (.inr (qae _)) _
   have y2:=cell_of hy7 2;have m6:=f7.cell m6 (by simp);simp only[qag,qac,qaf]at y2;have s7:Seen w7 B 0 (.map []):=qeg H6.out.1 f7 (by simp);have hidl:id.length≤1000000:=by rw[HN.o0];exact qar H.l12 (by decide)
   have H7:=zhd3 s7 f7 hidl;clear hy7 f7 s7 hidl hw7 hY;go_wp2_with (at_mapUpdate;refine wpList_mapUpdate_own _ rfl _ _ _ 75 rfl 9 4 qek qo0 (plainElem Tryz.prog 4) B 0 (.map []) rfl H7.o0 (by decide) _ _ (.string id) rfl rfl (qsx id H7.l2) (.lit (.bool true)) [] (plainElem_bool Tryz.underlying4 true) ?_;intro w8 hown8 hg8;have H8:=zhd2 hown8 ((Fr.refl [B] w7).grown hg8 (λk e=>.inl (by simp only[qaw]at e;simp[e])));clear hown8 hg8);go_roundg 0;case measure=>omega
   case rel=>refine .inr ⟨rfl,rfl,_,_,H8.o0,?_,(H7.o1.mono (by simp)).trans H8.l1⟩;rw[Maps.has_put_other (by rw[HN.o0];intro h;injection h with h;exact H.o5 h.symm)];rfl
  ·have fB':Fr [B] w5 wr:=(H6.out.2.2.1.mono (by simp)).trans fB;have fW6:Fr [] w wr:=H5.out.2.2.1.step fB' (λy hy=>by simp at hy;right;rw[hy];exact qar H5.out.2.2.1.size H6.out.2.2.2.2);have hC8:=fB.blk H6.out.2.1 (by simp;exact λh=>H6.out.2.2.2.1 h.symm);have hr2:=qn5 ta tc [x] wr (H.o1.fr fW6) (by simp) (by simpa using H.o4) (H.o2.fr fW6);have hidx:x.1.id.length≤1000000:=by rw[H.o8,hexb_length,H.o9];decide
   have hPB:P∉[B]:=by have h1:=H6.out.2.2.2.2;simp;omega
   have hdel:∀a3 c3 w8,Made wr w8 34 5 a3 [x].length c3 ([x].flatMap oL)→Calls Tryz.prog 32 #[.slice a3 [x].length c3,.func (.func 33) #[] #[.pointer (some ⟨C,0,none⟩)]] w8 λe w'=>e = .returned (.slice a3 [x].length c3)∧Fr [] w8 w':=λa3 c3 w8 M=>
    qus 33 #[.pointer (some ⟨C,0,none⟩)] (λ_ _=>by kernel_rfl) a3 c3 [x] w8 ⟨qhe M.own,M.le,M.max,M.nil,λm' hm'=>((H.o1.rd m' hm').fr fW6).fr M.fr⟩ (by simp)
     (λm' hm' w' f=>by
      simp only[qa2]at hm'
      subst hm'
      exact seen1 C B n D m' w' ((M.fr.trans f).blk hC8 (by simp)) (qeg hS (M.fr.trans f) (by simp)) hidx hno)
   simp only[qao,qbi,qbg]at hr2 hdel;have e1:=fB.cell e1 hPB;have hp0:=fB.cell hp0 hPB;have H8:=zhd5 fB' fW6 hPB hr2 hdel;clear fB' fW6 hC8 hr2 hidx hPB hdel hS hno fB m6 c0 c1 c2 c3 c4;go_upto_region 11 with (first
    | (go_at_call 31;refine H8.out.2.2.2.1.mono ?_;rintro e w8 ⟨a3,c3',rfl,M3⟩;have H9:=zhd M3;have e1:=M3.fr.cell e1 (by simp);have hp0:=M3.fr.cell hp0 (by simp);clear M3)
    | (go_at_call 32;refine (H8.out.2.2.2.2 _ _ _ H9.out).mono ?_;rintro e w9 ⟨rfl,f9⟩;have H10:=zhd f9;have e1:=f9.cell e1 (by simp);have hp0:=f9.cell hp0 (by simp);clear f9))
   have f69:Fr [] wr w9:=H9.out.fr.trans H10.out;have fW9:Fr [] w w9:=H8.l1.1.trans f69;have hP9:=f69.blk (H8.o0.blk H5.out.1 H8.out.2.2.1) (by simp);have own9:=qa7 (qa7 H5.out.2.1 H8.o0 (λy hy=>by
    simp only[Value.ownBlock,qaw]at hy
    have h1:=qdu H5.out.2.1 (k:=y) (by simp[Value.ownBlock,hy])
    have h2:=H6.out.2.2.2.2
    simp
    omega)) f69 (by simp)
   have O9:ORow w9 (some ⟨g,o,none⟩) 1 [(m.1,b2,m.1.body.length)]:=by
    have h:=H5.out.2.2.2.2.2;have hB:=H6.out.2.2.2.2;refine⟨(h.cs.fr H8.o0 (λy hy=>?_)).fr f69 (by simp),h.le,h.max,h.nil,λm' hm'=>?_⟩
    ·have h1:=(H2.o1 y hy).2;have h2:=H3.o0.size;simp;omega
    ·simp only[qa2]at hm';subst hm';refine ((h.rd _ (by simp)).frS H8.o0 (λy hy=>?_)).fr f69;have h1:=H3.l3 y hy;simp;omega
   have T9:ORow w9 a3 c3' [x]:=by have M:=H9.out;exact (⟨qhe M.own,M.le,M.max,M.nil,λm' hm'=>((H.o1.rd m' hm').fr H8.l1.1).fr M.fr⟩:ORow w8 a3 c3' [x]).fr H10.out
   have hwr:=qwn P (some ⟨G,0,none⟩) (some ⟨g,o,none⟩) a3 c5 1 c3' head1 (m.1,b2,m.1.body.length) x k xid mm w9 hP9 own9 H5.out.2.2.2.1 (by decide) O9 T9 H.o6 H.o7 hk7 H.o8 H.o9 H.o3.2.1 H.o4.2.1 (fW9.cell H.o10 (by simp)) H3.l3;have H11:=zhd2 hwr fW9;clear hwr f69 fW9 hP9 own9 O9 T9;go_wp2;go_loopg [11,63] 1 (λk' s11 s63 wq=>(k'=1∧s63 = .int .i64 0∧wq=w9)∨(k'=0∧s63 = .int .i64 1∧Wrote w9 P (some ⟨G,0,none⟩) (.slice (some ⟨g,o,none⟩) 1 1) head1 k xid x.1.body m.1.body (.returned (.tuple #[])) wq));case atStart=>exact .inl ⟨rfl,rfl,rfl⟩
   case round=>
    rcases hrel with⟨rfl,rfl,hwq⟩|⟨rfl,rfl,hW⟩
    ·have hwq:=hwq.symm;subst hwq;go_wp2_with (go_at_call 34;refine H11.o0.mono ?_;intro e w12 hW;have he:=hW.1;subst he;have H12:=zhd hW;clear hW);go_roundg 0;case measure=>omega
     case rel=>exact .inr ⟨rfl,rfl,H12.out⟩
    ·obtain⟨_,fP,E,hE,hEl,a10,c10,v2,v3,hP10,own10,hPa,hat⟩:=hW;have fW:Fr [] w wr:=H11.l1.step fP (λy hy=>by
      right
      rcases qbh.1 hy with rfl|hy
      ·exact hPw
      ·exact H5.out.2.2.2.2.1 y hy)
     have hatw:∀y∈blk a10,w.heap.size≤y:=λy hy=>by
      rcases hat y hy with h|h
      ·exact H5.out.2.2.2.2.1 y h
      ·exact qar H11.l1.size h
     obtain⟨body,hbody⟩:=zex (head1++E);have hlb:body.length=12+E.length:=by rw[hbody,qab];rfl
     have hlb':head1.length+E.length=body.length:=by rw[hbody,qab]
     rw[<-hbody,hlb']at own10;rw[hlb']at hP10;obtain⟨S,hS⟩:=zex (blk a10);have fd:=Fr.drew1 [] wr;have ownD:=qa7 own10 fd (by simp);obtain⟨rD,_⟩:=qc1 ownD;have hPd:=fd.blk hP10 (by simp);have q0:∀x',(sup S wr.drew x').cell? ⟨P,0,none⟩=some (.slice a10 body.length c10):=λx'=>(qcm S wr.drew x').cell (by rw[cell_of hPd];rfl) (by rw[hS];exact hPa)
     have hsh:=sha.qlh a10 c10 body wr.drew rD (by omega);have hbl':body.length≤500012:=by omega
     have H13:=zhd8 fW hatw ownD hsh hS hE hEl hbody;clear fP hE hEl hP10 own10 hPa hat fW hatw hlb hlb' hbody fd ownD rD hPd hsh hS;go_upto_region 16 with fail;refine qb3 11 [(false,0),(false,1),(false,2),(false,3),(false,4),(false,5),(false,6),(false,7),(true,8),(true,9),(true,10)] S (by kernel_rfl) (by kernel_rfl) (λ_ _ d _ _ h=>by cases d<;>exact h) ?_;simp only[qak,qam,qaz,qa0,qad,qaj,qbk];refine qb0 8 rfl ?_;simp only[qah,qan,qad,qaj,qak,qam];repeat (go_big_quiet_step (fail))
     refine wpQuiet_nil ?_;clear q0;refine qb6 rfl ?_;intro X' hX';go_wp2_with (go_at_call 35;refine H13.o3.mono ?_;rintro e w14 ⟨⟨a14,c14,rfl,r14⟩,f14⟩);refine hX'.out _ _ (f14.mono (by simp)) ?_;clear hX' X';have HS:=zhd2 r14 f14;clear r14 f14;have own14:=qa7 H13.o2 HS.l1 (by simp);have c14l:=HS.o0.le;rw[sha.qck]at c14l;refine qb6 rfl ?_;intro X' hX';refine qda sliceU8 _ _ rfl (.slice a10 body.length c10) body.length (body.map bv) S rfl (by rw[qby,H13.o4]) own14 a14 20 c14 ((sha.sha1 body).map bv) rfl c14l HS.o0.nil HS.o0.cs (by rw[qap,sha.qck]) (qc0 _) (by omega) (by unfold maxLen;omega) ?_;intro a15 c15 w15 A15;refine hX'.out _ _ A15.fr ?_;clear hX' X';refine qb6 rfl ?_;intro X' hX';go_wp2_with (go_at_call 29;refine (qrn a15 (body.length+20) c15 _ A15.le A15.max).mono ?_;rintro e w16 ⟨rfl,hw⟩;obtain rfl:=hw.symm);refine hX'.out _ _ (Fr.refl _ _) ?_;clear hX' X';refine qcq ?_;have H15:=zhd A15;clear A15 own14 c14l;go_wp2;go_ret;have o15:=H15.out.own;rw[<-qbe]at o15;obtain⟨r15,_⟩:=qc1 o15;have hlen:(body++sha.sha1 body).length=body.length+20:=by rw[qab,sha.qck]
     have f17:Fr [] w w14:=H13.o0.trans ((Fr.drew1 [] wr).trans HS.l1);refine⟨E,H13.o5,H13.o6,a15,?_,⟨?_,?_,?_,?_⟩,λy hy=>⟨?_,qdu o15 (qdw hy)⟩,f17.step H15.out.fr (λy hy=>.inr (by rw[H13.o4]at hy;exact H13.o1 y hy))⟩
     ·rw[<-H13.l7,hlen];rfl
     ·rw[<-H13.l7];exact r15.cs
     ·exact qae _
     ·rw[<-H13.l7,hlen];unfold maxLen;omega
     ·intro e;have h1:=r15.nil e;have h2:=r15.le;rw[hlen]at h2;omega
     ·rcases H15.out.at_ y hy with h|h
      ·rw[H13.o4]at h;exact H13.o1 y h
      ·rw[h];exact f17.size
end Go.Proofs.YtkmpfgpfbmeihaaGreatDoor.pk
namespace Go.Proofs.YtkmpfgpfbmeihaaGreatDoor.pk
open Go lib
theorem qvj {pre ext xid d r:List UInt8} (hx:xid.length=20) (hn:d.length≤65536) (hr:trip.RQ d r) :
  pentry (pre++(hd 7 d.length++xid++defl.zlibOf 2 r d)++ext) pre.length = .ok (⟨7,pre.length,d.length,crc.crc (hd 7 d.length++xid++defl.zlibOf 2 r d),d,hexb xid,0⟩,pre.length+(hd 7 d.length++xid++defl.zlibOf 2 r d).length):=by
 have hl:(pre++(hd 7 d.length++xid++defl.zlibOf 2 r d)++ext).length=pre.length+(hd 7 d.length).length+20+(defl.zlibOf 2 r d).length+ext.length:=by simp only[qab,hx];omega
 have hp:(hd 7 d.length++xid++defl.zlibOf 2 r d++ext)=hd 7 d.length++(xid++(defl.zlibOf 2 r d++ext)):=by simp only[qas]
 have hb:((pre++(hd 7 d.length++xid++defl.zlibOf 2 r d)++ext).drop (pre.length+(hd 7 d.length).length)).take 20=xid:=by rw[<-qep,qju,hp,zde,List.take_left' hx]
 have hq:(pre++(hd 7 d.length++xid++defl.zlibOf 2 r d)++ext).drop (pre.length+(hd 7 d.length).length+20)=defl.zlibOf 2 r d++ext:=by rw[qcb,<-qep,qju,hp,<-qep,zde,List.drop_left' hx]
 unfold pentry;rw[qju,hp,qty (by omega) (by omega) (by omega) hn];simp only;unfold pbase;rw[if_neg (by omega),if_pos rfl,if_neg (by rw[hl];omega),hb];simp only;rw[hq,trip.qp5 hr ext 65536 hn];simp only[if_true];rw[<-hp,List.take_left' (by simp only[qab,hx];omega)];simp only[qab,hx,qa6,qa4,true_and];omega
theorem qqq {E:List UInt8} {x:Ent} (hl:E.length≤500000) (h:pentry (head1++E++sha.sha1 (head1++E)) 12 = .ok (x,12+E.length)) :
  pread (head1++E++sha.sha1 (head1++E)) = .ok ([x],hexb (sha.sha1 (head1++E))):=by
 have hs:=sha.qck (head1++E);obtain⟨S,hS⟩:=zex (sha.sha1 (head1++E));have hS':sha.sha1 (head1++E)=S:=hS.symm;rw[hS']at h hs;have hh:head1.length=12:=rfl;have hlen:(head1++E++S).length=E.length+32:=by simp only[qab,hs,hh];omega
 have h8:(head1++E++S).take 8=begin8:=by rw[qas];rfl
 have h4:((head1++E++S).drop 8).take 4=[0,0,0,1]:=by rw[qas];rfl
 have hg:crc.getb [0,0,0,1]=1:=by decide
 have ht:(head1++E++S).take (12+E.length)=head1++E:=List.take_left' (by rw[qab,hh]);have hd':(head1++E++S).drop (12+E.length)=S:=List.drop_left' (by rw[qab,hh]);unfold pread;rw[hS',if_neg (by rw[hlen];omega),if_neg (by rw[h8,qbd (by rw[hlen];show 8≤_;omega)];simp),if_neg (by rw[hlen];omega),h4,hg,if_neg (by decide)];simp only[pents,h,qb4];rw[if_neg (by rw[hlen];omega),hd',ht,hS',qbd (by omega),if_neg (by simp),if_neg (by rw[hlen];omega)]
theorem qji (x:Ent) (h6:x.kind≠6) (h7:x.kind≠7) (kn:List Kn):resolve [x] kn = .ok [whole x x.kind x.data]:=by
 have hf:firsts [x]=[some (.ok (whole x x.kind x.data,0))]:=by unfold firsts first1;simp[h6,h7]
 unfold resolve;rw[hf];simp[resF,pass,ask,gather]
theorem qsc (x:Ent) (h7:x.kind=7) {kn:List Kn} {k:Kn} {t:List UInt8} (hk:kfind kn x.base=some k) (ha:delta.apply k.body x.data 65536=(t,0)):resolve [x] kn = .ok [whole x k.kind t]:=by
 have hf:firsts [x]=[none]:=by unfold firsts first1;simp[h7]
 have ho:over x k.kind k.body 0 = .ok (whole x k.kind t,1):=by unfold over;rw[if_neg (by decide),ha];simp
 unfold resolve;rw[hf];simp[resF,pass,ask,gather,try1,h7,idIs,onto,hk,ho]
theorem qqp (x:Ent) (h7:x.kind=7) {kn:List Kn} (hk:kfind kn x.base=none):resolve [x] kn = .error 61:=by
 have hf:firsts [x]=[none]:=by unfold firsts first1;simp[h7]
 unfold resolve;rw[hf];simp[resF,pass,ask,gather,try1,h7,idIs,onto,hk]
theorem qu7 {E xid base text:List UInt8} (hE:WForm 3 xid base text E) (hl:E.length≤500000) (hx:xid.length=20) (ht:text.length≤65536) (hb:base.length≤65536) (hid:oid 3 base=hexb xid) :
  ∃x:Ent,pread (head1++E++sha.sha1 (head1++E)) = .ok ([x],hexb (sha.sha1 (head1++E)))∧resolve [x] [⟨3,base,hexb xid⟩] = .ok [whole x 3 text]∧
   ((x.kind=7∧x.base=hexb xid∧resolve [x] [] = .error 61)∨(x.kind=3∧resolve [x] [] = .ok [whole x 3 text])):=by
 rcases hE with⟨r,hr,rfl⟩|⟨d,r,hm,hd,hr,rfl⟩
 ·refine⟨_,qqq hl (qsj (pre:=head1) (by decide) (by decide) ht hr),?_,.inr ⟨rfl,?_⟩⟩
  ·exact qji _ (by simp) (by simp) _
  ·exact qji _ (by simp) (by simp) _
 ·obtain⟨ins,hd2,hru,_,_⟩:=hm;have hap:delta.apply base d 65536=(text,0):=by rw[hd2];exact delta.qwd base ins text (by omega) (by omega) hru 65536 (by omega)
  have hk:kfind [⟨3,base,hexb xid⟩] (hexb xid)=some ⟨3,base,hexb xid⟩:=by unfold kfind;simp[hid]
  refine⟨_,qqq hl (qvj (pre:=head1) hx (by omega) hr),?_,.inl ⟨rfl,rfl,?_⟩⟩
  ·exact qsc _ rfl (k:=⟨3,base,hexb xid⟩) hk hap
  ·exact qqp _ rfl rfl
end Go.Proofs.YtkmpfgpfbmeihaaGreatDoor.pk
namespace Go.Proofs.YtkmpfgpfbmeihaaGreatDoor.sha
open Go Go.RowKit lib bm pk
def wv (v:Nat):Value:=.int .u32 v
def be4s (vs:List Nat):List UInt8:=vs.flatMap sums.be4
theorem be4s_len:∀vs:List Nat,(be4s vs).length=4*vs.length
 | []=>rfl
 | v::t=>by have:be4s (v::t)=sums.be4 v++be4s t:=rfl;rw[this,qab,sums.qdg,be4s_len t,qao];omega
theorem qz9 (vs:List Nat) (v:Nat):be4s (vs++[v])=be4s vs++sums.be4 v:=by unfold be4s;rw[qf9];simp
theorem qp8 (ao:Option Addr) (cap:Nat) (vs:List Nat) (w:World) (h:Cs w ao (vs.map wv)) (hv:∀v∈vs,v<4294967296) (hlen:vs.length≤5) (hlc:vs.length≤cap) (hcm:cap≤maxLen) :
  Calls Tryz.prog 82 #[.slice ao vs.length cap] w λe w'=>∃a c,e = .returned (.slice a (4*vs.length) c)∧lib.Rd w' a c (be4s vs)∧(∀x∈blk a,w.heap.size≤x∧x<w'.heap.size)∧Fr [] w w':=by
 obtain⟨L,hL⟩:=zex vs.length;unfold maxLen at hcm;rw[<-hL]at hlen hlc ⊢;have HI:=zhd3 h hL hv;clear h hL hv;go_enter Tryz.func82,Tryz.ntmps82;go_wp2;go_loopg [3,4] L (λk s3 s4 wr=>∃i a c out,s4 = .int .i64 (i:Nat)∧s3 = .slice a out.length c∧i+k=L∧out=be4s (vs.take i)∧Wr w wr a c out);case atStart=>exact⟨0,none,0,[],rfl,rfl,by omega,rfl,qoy w w (Fr.refl _ _)⟩
 case round=>
  obtain⟨i,a,c,out,rfl,rfl,hik,ho,hw⟩:=hrel;have H:=zhd2 hw ho;have hol:out.length≤20:=by rw[ho,be4s_len,qaq];omega
  clear hw ho;by_cases hi:i<L
  ·obtain⟨k,rfl⟩:∃k,gk=k+1:=⟨gk-1,by omega⟩;have hil:i<vs.length:=by rw[<-HI.out.2.1];exact hi
   obtain⟨g,o,rfl,hc⟩:=HI.out.1.at (by rw[qap];omega);have hci:=hc i (wv vs[i]) (by rw[qbl,qai hil];rfl);have hglt:g<w.heap.size:=qhg w _ hci;have hvb:=HI.out.2.2 vs[i] (qdj hil);have HT:=zhd (show vs.take (i+1)=vs.take i++[vs[i]] from qca hil);obtain⟨v,hvv⟩:=zex (vs[i]);rw[<-hvv]at hci hvb HT;have hb4:=sums.qtd v hvb;have HB:=zhd hb4;unfold wv at hci;have hcr:=H.out.1.fr.cell hci (by simp);obtain⟨S,hS⟩:=zex (blk a);have hgS:g∉S:=λhm=>by rw[hS]at hm;have:=H.out.1.new g hm;omega
   have q0:∀x,(sup S wr.drew x).cell? ⟨g,o+i,none⟩=some (.int .u32 v):=λx=>(qcm S wr.drew x).cell (show wr.drew.cell? _=_ from hcr) hgS
   have HS:=zhd hS;clear hc hci hil hvv hb4 hcr hS hglt;go_upto_region 5 with fail;refine qb3 26 [(false,0),(false,1),(false,2),(false,3),(false,4),(false,5),(false,6),(false,7),(false,8),(false,9),(false,10),(false,11),(false,12),(false,13),(false,14),(false,15),(false,16),(false,17),(false,18),(false,19),(false,20),(false,21),(false,22),(false,23),(true,24),(true,25)] S (by kernel_rfl) (by kernel_rfl) (λ_ _ d _ _ h=>by cases d<;>exact h) ?_;simp only[qak,qam,qaz,qa0,qad,qaj,qbk];refine qb0 24 rfl ?_;simp only[qah,qan,qad,qaj,qak,qam];repeat (go_big_quiet_step (fail))
   refine wpQuiet_nil ?_;clear q0;refine qb6 rfl ?_;intro X hX;go_wp2;refine hX.out _ _ ((Fr.refl _ wr.drew).alloc _) ?_;clear hX X;have fr0:Fr [] wr (wr.drew.alloc (.cells #[.int .u8 ((v:Int)/16777216),.int .u8 ((v:Int)/65536%256),.int .u8 ((v:Int)/256%256),.int .u8 ((v:Int)%256)] 5)):=(Fr.drew1 [] wr).alloc _;have ownA:=qa7 H.out.1.own fr0 (by simp);have cA:Cs (wr.drew.alloc (.cells #[.int .u8 ((v:Int)/16777216),.int .u8 ((v:Int)/65536%256),.int .u8 ((v:Int)/256%256),.int .u8 ((v:Int)%256)] 5)) (some ⟨wr.drew.heap.size,0,none⟩) ((sums.be4 v).map bv):=by rw[HB.out];exact .inr ⟨wr.drew.heap.size,0,rfl,λj u hj=>by rw[cell_of (qay wr.drew _)];simpa using hj⟩
   refine qb6 rfl ?_;intro X hX;refine qda sliceU8 _ _ rfl (.slice a out.length c) out.length (out.map bv) S rfl (by rw[qby,HS.out]) ownA (some ⟨wr.drew.heap.size,0,none⟩) 4 4 ((sums.be4 v).map bv) rfl (by decide) (by simp) cA (by rfl) (qc0 _) (by omega) (by unfold maxLen;omega) ?_;intro a2 c2 w2 A1;refine hX.out _ _ A1.fr ?_;clear hX X;refine qcq ?_;have HA:=zhd2 fr0 A1;clear fr0 A1 ownA cA;go_wp2;go_roundg k;case measure=>omega
   case rel=>have A1:=HA.l1;rw[HS.out]at A1;exact⟨i+1,a2,c2,out++sums.be4 v,by go_num,by rw[qab];rfl,by omega,by rw[HT.out,qz9,<-H.out.2],H.out.1.step2 HA.o0 A1⟩
  ·obtain rfl:i=L:=by omega
   have ho:out=be4s vs:=by rw[H.out.2,HI.out.2.1,List.take_length]
   have hn:out.length=4*i:=by rw[ho,be4s_len,<-HI.out.2.1]
   have HO:=zhd2 ho hn;clear ho hn;go_wp2;go_ret;obtain⟨r1,_⟩:=qc1 H.out.1.own;exact⟨a,c,by rw[<-HO.l1];rfl,by rw[<-HO.o0];exact r1,λx hx=>⟨H.out.1.new x hx,qdu H.out.1.own (qdw hx)⟩,H.out.1.fr⟩
theorem qg6 (x:Int) (n:Nat) (w:World) (hn:n=1∨n=5∨n=30) :
  Calls Tryz.prog 83 #[.int .u32 x,.int .i64 n] w λe w'=>e = .returned (.int .u32 (rol x n))∧Fr [] w w':=by
 rcases hn with rfl|rfl|rfl
 all_goals
  go_enter Tryz.func83,Tryz.ntmps83
  go_upto_region 1 with fail
  go_quiet (fail)
  go_wp2
  go_ret
  exact⟨rfl,Fr.drewN _ _ _⟩
end Go.Proofs.YtkmpfgpfbmeihaaGreatDoor.sha
