/-
  Texts of this proof, one behind the other: RCrc, Flat, Mid, TabC, CrcB, PkEntry, PkMem, PackNil, RevB.
-/
import Derived.Test.YtkmpfgpfbmeihaaGreatDoorU15
import Derived.Deep.MidRow
import Derived.Lib.SliceRun
import Derived.Carry
set_option maxHeartbeats 16000000
set_option maxRecDepth 100000
set_option linter.unusedVariables false
set_option linter.unusedSimpArgs false
namespace Go.Proofs.YtkmpfgpfbmeihaaGreatDoor
namespace crc
open Go Go.RowKit lib bm
theorem ofInt_u32 (a:Nat) (ha:a<4294967296):(BitVec.ofInt 32 (a:Int)).toNat=a:=by rw[BitVec.ofInt_natCast,BitVec.toNat_ofNat];exact Aq (by omega)
theorem u32_xor (a b:Nat) (ha:a<4294967296) (hb:b<4294967296):bits .xor .u32 (a:Int) (b:Int)=((a ^^^ b:Nat):Int):=by have hx:=Uc ha hb;show IntKind.u32.wrap ((BitVec.ofInt 32 (a:Int) ^^^ BitVec.ofInt 32 (b:Int)).toNat:Int)=_;rw[BitVec.toNat_xor,ofInt_u32 a ha,ofInt_u32 b hb];unfold IntKind.wrap;simp only[IntKind.signed,IntKind.bits,J7,Fq,if_false,show (2:Int)^32=4294967296 from rfl];omega
theorem zc5 (a:Nat) (ha:a<4294967296):bits .and .u32 (a:Int) 1=((a%2:Nat):Int):=by show IntKind.u32.wrap ((BitVec.ofInt 32 (a:Int) &&& BitVec.ofInt 32 ((1:Nat):Int)).toNat:Int)=_;rw[BitVec.toNat_and,ofInt_u32 a ha,ofInt_u32 1 (by decide),Nat.and_one_is_mod];unfold IntKind.wrap;simp only[IntKind.signed,IntKind.bits,J7,Fq,if_false,show (2:Int)^32=4294967296 from rfl];omega
theorem zc4 (c:Nat) (hc:c<4294967296):bits .xor .u32 IntKind.u32.max (c:Int)=((4294967295-c:Nat):Int):=by show IntKind.u32.wrap ((BitVec.ofInt 32 4294967295 ^^^ BitVec.ofInt 32 (c:Int)).toNat:Int)=_;rw[show BitVec.ofInt 32 4294967295=BitVec.allOnes 32 by decide,BitVec.allOnes_xor,BitVec.toNat_not,ofInt_u32 c hc];unfold IntKind.wrap;simp only[IntKind.signed,IntKind.bits,J7,Fq,if_false,show (2:Int)^32=4294967296 from rfl];omega
theorem qte (c:Nat):st c=if c%2=1 then (c/2) ^^^ uA else c/2:=rfl
end crc
namespace lib
open Go Go.RowKit
theorem UI {α:Type} (f:α->List Value) (c:Nat) (hf:∀x,(f x).length=c):∀l:List α,(l.flatMap f).length=l.length*c
 | []=>by simp
 | x::l=>by rw[Av,aK,UI f c hf l,hf,cQ,Nat.succ_mul];omega
theorem Hj {α:Type} (f:α->List Value) (c:Nat) (hf:∀x,(f x).length=c):∀(l:List α) (i:Nat) (x:α) (j:Nat),l[i]?=some x->j<c->(l.flatMap f)[i*c+j]?=(f x)[j]?
 | [],i,x,j,h,_=>by simp at h
 | y::l,0,x,j,h,hj=>by
  simp only[aV,eS]at h;subst h;rw[Av,Nat.zero_mul,fM,CJ (by rw[hf];exact hj)]
 | y::l,i+1,x,j,h,hj=>by rw[Av,Ie (by rw[hf,Nat.succ_mul];omega),hf,Nat.succ_mul,show i*c+c+j-c=i*c+j by omega];exact Hj f c hf l i x j (by simpa using h) hj
theorem Fr.setCells {S:List Nat} {a:World} {b:Nat} (hb:b∈S\/a.heap.size<=b):∀(vs:List Value) (o:Nat) {w:World},Fr S a w->Fr S a (w.setCells b o vs)
 | [],_,_,h=>h
 | v::r,o,w,h=>by rw[World.setCells];exact Fr.setCells hb r (o+1) (h.setCell (p:=⟨b,o,none⟩) hb v)
theorem Fr.setRow {S:List Nat} {a w:World} (h:Fr S a w) {g:Nat} (hg:g∈S\/a.heap.size<=g) (cs:Array Value):Fr S a (w.setRow g cs):=
 h.step (T:=[g]) ⟨rfl,rfl,rfl,by rw[setRow_size];exact aw _,λk _ hn=>setRow_other w g k cs (by simpa using hn)⟩ (by simpa using hg)
theorem V9 {b:Nat} {t:TypeId} {f:Nat×Nat}:∀(vs:List Value) (o:Nat) (w:World) (C:Array Value),w.heap[b]?=some (.cells C t f)->
  ∃C',(w.setCells b o vs).heap[b]?=some (.cells C' t f)/\C'.size=C.size/\(∀i,i<o\/o+vs.length<=i->C'[i]?=C[i]?)/\(∀j v,vs[j]?=some v->o+j<C.size->C'[o+j]?=some v)
 | [],o,w,C,h=>⟨C,h,rfl,λ_ _=>rfl,λj v hv _=>by simp at hv⟩
 | v::r,o,w,C,h=>by
  rw[World.setCells];obtain⟨C',h1,h2,h3,h4⟩:=V9 r (o+1) _ _ (aX (o:=o) h v);rw[qX]at h2;refine⟨C',h1,h2,λi hi=>?_,λj u hu hj=>?_⟩
  ·simp only[cQ]at hi;rw[h3 i (by omega),aZ (by omega)]
  ·cases j with
   | zero=>
    simp only[aV,eS]at hu;subst hu;rw[jS,h3 o (by omega),iu (by omega)]
   | succ j=>have:=h4 j u (by simpa using hu) (by rw[qX];omega);rw[show o+(j+1)=o+1+j by omega];exact this
theorem qs9 {w:World} {b:Nat} {C:Array Value} {t:TypeId} (h:w.heap[b]?=some (.cells C t (0,0))) (o n:Nat) (hn:o+n<=C.size):w.there b o n:=λj hj=>by refine⟨?_,aO h _⟩;rw[cell_of h,xG (by omega)];rfl
end lib
namespace crc
open Go Go.RowKit lib bm
theorem sZ:(Tryz.prog.info? 186).map (·.size)=some 256:=by kernel_rfl
theorem qr0 {fn:Func} {p:Tmp} (h:fn.results=#[.cell p 186]) (tmps:Array Value) (w:World) (g:Nat) (cs:Array Value) (fr:Nat×Nat)
  (hp:tmps.getD p undef = .pointer (some ⟨g,0,none⟩)) (hg:w.heap[g]?=some (.cells cs 186 fr)) (hs:cs.size=256):(results fn tmps).run Tryz.prog w = .ok (.agg cs) w:=
 results_cell_row h tmps w g 186 cs fr _ hp hg Tryz.underlying186 rfl (by rw[sZ,hs])
def yu (C:Array Value) (n:Nat):Prop:=C.size=256/\∀i,i<n->C[i]?=some (.int .u32 (tb i:Nat))
theorem qv9 (w:World):Calls Tryz.prog 131 #[] w λe w'=>∃C,e = .returned (.agg C)/\yu C 256/\Fr [] w w':=by
 go_enter Tryz.func131,Tryz.ntmps131;go_upto_block 0 with fail;obtain⟨B,w1,hB,cD,hm⟩:∃B w1,B=w.heap.size/\w1=w.alloc (.cells Tryz.zeroCells186 186)/\(Fr [] w w1/\∃C,w1.heap[B]?=some (.cells C 186 (0,0))/\yu C 0):=⟨_,_,rfl,rfl,(Fr.refl [] w).alloc _,_,bx w _,by kernel_rfl,λi hi=>by omega⟩;rw[<-cD,<-hB];have HM:=ak hm hB;clear hm cD hB;go_wp2;go_loopg [3] 256 (λk s3 wr=>∃i:Nat,s3 = .int .i64 (i:Nat)/\i+k=256/\Fr [] w wr/\∃C,wr.heap[B]?=some (.cells C 186 (0,0))/\yu C i);case atStart=>exact⟨0,rfl,rfl,HM.o0⟩
 case round=>
  obtain⟨i,rfl,bU,hf,C,hC,hT⟩:=hrel;by_cases hi:i<256
  ·obtain⟨k,rfl⟩:∃k,gk=k+1:=⟨gk-1,by omega⟩;have H:=au hf hC hT;clear hf hC hT;go_upto_block 2 with fail;obtain⟨wo,ou⟩:=ah wr;rw[<-ou]at H ⊢;clear ou;go_wp2;go_loopg [2,8] 8 (λk2 s2 s8 wq=>∃j y:Nat,s8 = .int .i64 (j:Nat)/\s2 = .int .u32 (y:Nat)/\j+k2=8/\y<4294967296/\tb i=xA (8-j) y/\wq=wo);case atStart=>exact⟨0,i,rfl,by go_num,rfl,by omega,rfl,rfl⟩
   case round=>
    obtain⟨j,y,rfl,rfl,hj,hy,he,rfl⟩:=hrel;have HE:=af he;clear he;by_cases h8:j<8
    ·obtain⟨k2,rfl⟩:∃k,gk=k+1:=⟨gk-1,by omega⟩;have tA:=zc5 y hy;have az:xA (8-j) y=xA (8-(j+1)) (st y):=by rw[show 8-j=8-(j+1)+1 by omega];rfl
     have Tk:=af az;have ph:=ZG hy;clear az;by_cases hodd:y%2=1
     ·have hh:=u32_xor (y/2) uA (by omega) (by decide);have rf:st y=(y/2) ^^^ uA:=by rw[qte,if_pos hodd]
      rw[<-rf]at hh;unfold uA at hh;rw[show ((y/2:Nat):Int)=(y:Int)/2 by omega]at hh;rw[hodd]at tA;have hand:bits .and .u32 3988292384 4294967295=3988292384:=by decide
      generalize st y=z at *;clear rf;go_wp2;go_roundg k2;case measure=>omega
      case rel=>exact⟨j+1,z,by go_num,by go_num,by omega,ph,by rw[HE.out,Tk.out],rfl⟩
     ·have rf:st y=y/2:=by rw[qte,if_neg hodd]
      rw[show y%2=0 by omega]at tA;have hand:bits .and .u32 3988292384 0=0:=by decide
      have hh:=u32_xor (y/2) 0 (by omega) (by decide);rw[Nat.xor_zero,show ((y/2:Nat):Int)=(y:Int)/2 by omega]at hh;have HS:=af rf;clear rf ph;go_wp2;go_roundg k2;case measure=>omega
      case rel=>exact⟨j+1,y/2,by go_num,by go_num,by omega,by omega,by rw[HE.out,Tk.out,HS.out],rfl⟩
    ·obtain rfl:j=8:=by omega
     have hC:=H.out.2.1;have zC:=aO hC i;obtain⟨x0,gM⟩:∃x,wr.cell? ⟨B,i,none⟩=some x:=⟨C[i]'(by rw[H.out.2.2.1];exact hi),by rw[cell_of hC];exact xG (by rw[H.out.2.2.1];exact hi)⟩;clear hC;go_wp2;go_roundg k;case measure=>omega
     case rel=>
      refine⟨i+1,by go_num,by omega,H.out.1.setCell (.inr (by rw[HM.l1];exact aw _)) _,_,aX H.out.2.1 _,by rw[qX];exact H.out.2.2.1,λt ht=>?_⟩;by_cases e:t=i
      ·subst e;rw[iu (by rw[H.out.2.2.1];exact hi),HE.out];rfl
      ·rw[aZ (by omega)];exact H.out.2.2.2 t (by omega)
  ·obtain rfl:i=256:=by omega
   obtain rfl:gk=0:=by omega
   have H:=au hf hC hT;clear hf hT;have h1:C.all (·.oneCell')=true:=Array.all_eq_true_iff_forall_mem.2 λv hv=>by obtain⟨i,hi,rfl⟩:=Array.mem_iff_getElem.1 hv;have:=H.out.2.2.2 i (by rw[<-H.out.2.2.1];exact hi);rw[xG hi]at this;rw[lL this];rfl
   have cF:=H.out.2.2.1;have Gc:(Tryz.prog.info? 186).map (·.size)=some C.size:=by rw[sZ,cF]
   have HC:=au hC h1 Gc;clear hC h1 Gc;go_wp2_with (first|(refine wpList_load_row rfl 186 (.tmp 0) rfl B rfl _ C (0,0) _ HC.o0 Tryz.underlying186 rfl HC.l2 ?_)|(refine wpList_store_row rfl 186 (.tmp 0) (.tmp 22) rfl B C rfl rfl _ C HC.o0 HC.l2 rfl HC.o1 ?_));exact bodyPost_ret (qr0 rfl _ _ B C (0,0) rfl (setRow_heap _ _ _ _ _ _ HC.o0) cF) rfl ⟨C,rfl,H.out.2.2,H.out.1.setRow (.inr (by rw[HM.l1];exact aw _)) _⟩
def Cr (w:World) (g c:Nat):Prop:=
 ∃C,w.heap[g]?=some (.cells C 188 (0,0))/\C.size=267/\C[0]?=some (.int .i64 2)/\(∀i,i<256->C[8+i]?=some (.int .u32 (tb i:Nat)))/\C[264]?=some (.int .u32 (c:Nat))/\c<4294967296
theorem ofInt_u8 (a:Nat) (ha:a<256):(BitVec.ofInt 8 (a:Int)).toNat=a:=by rw[BitVec.ofInt_natCast,BitVec.toNat_ofNat];exact Aq (by omega)
theorem u8_xor (a b:Nat) (ha:a<256) (hb:b<256):bits .xor .u8 (a:Int) (b:Int)=((a ^^^ b:Nat):Int):=by have hx:a ^^^ b<256:=Nat.xor_lt_two_pow (n:=8) ha hb;show IntKind.u8.wrap ((BitVec.ofInt 8 (a:Int) ^^^ BitVec.ofInt 8 (b:Int)).toNat:Int)=_;rw[BitVec.toNat_xor,ofInt_u8 a ha,ofInt_u8 b hb];unfold IntKind.wrap;simp only[IntKind.signed,IntKind.bits,J7,Fq,if_false,show (2:Int)^8=256 from rfl];omega
theorem zc8 {C:Array Value} (h:yu C 256):C.all (·.oneCell')=true:=Array.all_eq_true_iff_forall_mem.2 λv hv=>by obtain⟨i,hi,rfl⟩:=Array.mem_iff_getElem.1 hv;have:=h.2 i (by rw[<-h.1];exact hi);rw[xG hi]at this;rw[lL this];rfl
theorem qze (w:World):Calls Tryz.prog 106 #[.int .i64 2] w λe w'=>e = .returned (.pointer (some ⟨w.heap.size,0,none⟩))/\Cr w' w.heap.size 4294967295/\Fr [] w w':=by
 go_enter Tryz.func106,Tryz.ntmps106;go_wp2_with (first
  | (go_at_call 131;refine (qv9 _).mono ?_;rintro e w2 ⟨T,rfl,hT,f2⟩;have hC:=(show ∃C0:Array Value,w2.heap[w.heap.size]?=some (.cells C0 188 (0,0))/\C0.size=267/\C0[0]?=some (.int .i64 2)/\C0[264]?=some (.int .u32 (4294967295:Nat)) from ⟨_,f2.ae (bx w _) (by simp),rfl,rfl,rfl⟩);have fw:=((Fr.refl [] w).alloc _).trans f2;have hi:=(show (Tryz.prog.info? 186).map (·.size)=some T.size by rw[sZ,hT.1]);have HT:=aF hC fw hT hi;clear hC fw hT hi f2)
  | (obtain⟨C0,hC0,s1,s2,s3⟩:=HT.out.1;have HC:=aF hC0 s1 s2 s3;clear hC0 s1 s2 s3;refine wpList_store_mid rfl 186 (.tmp 13) (.tmp 11) rfl w.heap.size 8 T rfl rfl (qs9 HC.out.1 8 _ (by rw[HT.out.2.2.1.1,HC.out.2.1];decide)) HT.out.2.2.2 (zc8 HT.out.2.2.1) ?_))
 go_ret;obtain⟨C',h1,h2,h3,h4⟩:=V9 T.toList 8 w2 C0 HC.out.1;refine⟨rfl,⟨C',h1,by rw[h2];exact HC.out.2.1,by rw[h3 0 (by omega)];exact HC.out.2.2.1,λi hi=>h4 i _ (by rw[qW];exact HT.out.2.2.1.2 i hi) (by rw[HC.out.2.1];omega),by rw[h3 264 (by rw[FB,HT.out.2.2.1.1];omega)];exact HC.out.2.2.2,by decide⟩,Fr.setCells (.inr (aw _)) _ _ HT.out.2.1⟩
theorem qv0 (g c0 cap:Nat) (ao:Option Addr) (bs:List UInt8) (w:World) (h:Cr w g c0) (hr:Rd w ao cap bs) (FY:bs≠[]->∀x∈ae ao,x≠g) :
  Calls Tryz.prog 94 #[.pointer (some ⟨g,0,none⟩),.slice ao bs.length cap] w λe w'=>e = .returned (.tuple #[])/\Fr [g] w w'/\Cr w' g (bs.foldl FK c0):=by
 obtain⟨C,hC,cF,bW,aG⟩:=h;have z0:=cell_of hC 0;rw[bW]at z0;obtain⟨L,hL⟩:=ah bs.length;have hle:=hr.le;have dv:=hr.max;unfold maxLen at dv;rw[<-hL]at hle ⊢;have H:=aF (show Cr w g c0 from ⟨C,hC,cF,bW,aG⟩) hr FY hL;clear hr FY hL hC cF bW aG;go_enter Tryz.func94,Tryz.ntmps94;go_upto_block 3 with fail;clear z0;go_wp2;go_loopg [5,63] L (λk s5 s63 wr=>∃i c:Nat,s63 = .int .i64 (i:Nat)/\i+k=L/\Cr wr g c/\Fr [g] w wr/\(bs.drop i).foldl FK c=bs.foldl FK c0);case atStart=>exact⟨0,c0,rfl,by omega,H.o0,Fr.refl _ _,rfl⟩
 case round=>
  obtain⟨i,c,rfl,bU,hA,hf,had⟩:=hrel;by_cases hi:i<L
  ·obtain⟨k,rfl⟩:∃k,gk=k+1:=⟨gk-1,by omega⟩;have sF:i<bs.length:=by rw[<-H.l3];exact hi
   have jD:=zF H.o1 hf (λhb x hx hm=>H.o2 hb x hx (by simpa using hm));obtain⟨g1,o1,rfl,cc⟩:=jD.at sF;have hdr:bs.drop i=bs[i]::bs.drop (i+1):=AF sF;rw[hdr,Ke]at had;have sI:=iB bs[i];have y8:=zd5 c bs[i];obtain⟨C,hC,cF,zR,nL,kv,fH⟩:=hA;have uJ:=ze9 fH bs[i];obtain⟨z,hz⟩:=ah (FK c bs[i]);rw[<-hz]at had y8 uJ;generalize bs[i].toNat=b at *;obtain⟨j,hj⟩:=ah (c%256 ^^^ b);have kT:j<256:=by rw[hj];exact Nat.xor_lt_two_pow (n:=8) (by omega) sI
   have ex:=u8_xor (c%256) b (by omega) sI;rw[<-hj,show ((c%256:Nat):Int)=(c:Int)%256 by omega]at ex;rw[<-hj]at y8;have WQ:=zf0 kT;have ez:=u32_xor (c/256) (tb j) (by omega) WQ;rw[<-y8,show ((c/256:Nat):Int)=(c:Int)/256 by omega]at ez;have ct:=cell_of hC (8+j);rw[nL j kT]at ct;generalize tb j=tj at *;have ca:=cell_of hC 264;rw[kv]at ca;have za:=aO hC 264;have HC:=bJ hC cF zR nL hf had;clear hC cF zR nL hf had y8 hdr jD sF kv hz hj;go_upto_region 11 with fail;clear cc;refine uw 21 (by kernel_rfl) (by kernel_rfl) ?_;simp only[uj];repeat (go_big_quiet_step (fail))
   refine wpQuiet_nil ?_;go_wp2;go_roundg k;case measure=>omega
   case rel=>have YO:=aX (w:=wr.drew) (o:=264) (show wr.drew.heap[g]?=_ from HC.o0) (.int .u32 z);refine⟨i+1,z,by go_num,by omega,⟨_,YO,by simp[HC.o1],by rw[aZ (by decide)];exact HC.o2,λt ht=>by rw[aZ (by omega)];exact HC.o3 t ht,iu (by rw[HC.o1];decide),uJ⟩,(HC.o4.trans (Fr.av [g] wr)).setCell (by simp) _,HC.l5⟩
  ·obtain rfl:gk=0:=by omega
   obtain rfl:i=L:=by omega
   have hd:bs.drop i=[]:=CK (by rw[<-H.l3];exact aw _);rw[hd]at had;have HA:=au hA hf had;clear hA hf had hd;go_wp2;go_end0;exact⟨rfl,HA.o1,by rw[<-HA.l2];exact HA.o0⟩
theorem zda (g c:Nat) (w:World) (h:Cr w g c):Calls Tryz.prog 96 #[.pointer (some ⟨g,0,none⟩)] w λe w'=>(∃ao q,e = .returned (.slice ao 4 q)/\Rd w' ao q (sums.gh (4294967295-c)))/\Fr [] w w':=by
 obtain⟨C,hC,cF,bW,_,kv,fH⟩:=h;have c0:=cell_of hC 0;have c1:=cell_of hC 264;rw[bW]at c0;rw[kv]at c1;obtain⟨z,hz⟩:=ah (4294967295-c);have r1:=zc4 c fH;rw[<-hz]at r1;have uJ:z<4294967296:=by omega
 rw[<-hz];have HC:=af hC;clear hz hC cF bW kv;go_enter Tryz.func96,Tryz.ntmps96;go_upto_region 3 with fail;have x7:=lt_of_block HC.out;obtain⟨B,hB⟩:=ah w.heap.size;have SG:g∉[B]:=by simp;omega
 have s1:∀x,(sup [B] w.drew x).cell? ⟨g,264,none⟩=some (.int .u32 c):=λx=>(dk [B] w.drew x).cell (show w.drew.cell? _=_ from c1) SG
 have lF:∀w:World,(Instr.makeSlice 23 (.int .i64 0) (.int .i64 4)).run Tryz.prog w = .ok (.slice (some ⟨w.heap.size,0,none⟩) 0 4) (w.alloc (.cells #[.int .u8 0,.int .u8 0,.int .u8 0,.int .u8 0] 5)):=λ_=>by kernel_rfl
 have yb:∀w,dP w 5 (some ⟨B,0,none⟩) 4 (([]:List UInt8).map bv)->Calls Tryz.prog 119 #[.slice (some ⟨B,0,none⟩) 0 4,.int .u32 z] w (sums.jO w (some ⟨B,0,none⟩) [] z):=λw h=>sums.Mv (some ⟨B,0,none⟩) 4 [] z w uJ h (by simp)
 unfold sums.jO at yb;simp only[lK,fM,vI]at yb;have HB:=ak hB yb;clear hB yb c0 c1;refine jh 8 [(false,1),(false,2),(false,3),(false,4),(false,5),(true,0),(true,6),(false,7)] [B] (by kernel_rfl) (by kernel_rfl) (λ_ _ d _ _ h=>by cases d<;>exact h) ?_;simp only[iw];refine cS 5 rfl ?_;simp only[aU];repeat (go_big_quiet_step (fail))
 refine wpQuiet_nil ?_;refine ep rfl ?_;intro X hX;have YP:w.drew.heap.size=B:=HB.o0.symm;go_wp2;have f1:Fr [B] w.drew ((w.alloc (.cells #[.int .u8 0,.int .u8 0,.int .u8 0,.int .u8 0] 5)).drew):=(Fr.refl [B] w.drew).alloc (.cells #[.int .u8 0,.int .u8 0,.int .u8 0,.int .u8 0] 5);have aA:dP ((w.alloc (.cells #[.int .u8 0,.int .u8 0,.int .u8 0,.int .u8 0] 5)).drew) 5 (some ⟨B,0,none⟩) 4 (([]:List UInt8).map bv):=.inr ⟨B,0,_,rfl,by rw[HB.o0];exact bx w _,dZ _,by decide,aw _,rfl⟩;refine hX.out _ _ f1 ?_;clear hX X s1 lF;generalize (w.alloc (.cells #[.int .u8 0,.int .u8 0,.int .u8 0,.int .u8 0] 5)).drew=w1 at *;have H1:=ak (HB.l1 w1 aA) f1;clear aA f1 YP;refine ep rfl ?_;intro X hX;go_wp2_with (go_at_call 119;refine H1.o0.mono ?_;rintro e w2 ⟨a2,c2,rfl,A2⟩);refine hX.out _ _ A2.fr ?_;clear hX X;have H2:=af A2;clear A2;refine cS 1 rfl ?_;simp only[aU];repeat (go_big_quiet_step (fail))
 refine wpQuiet_nil ?_;refine fE ?_;go_wp2;go_ret;have hr:Rd w2 a2 c2 (sums.gh z):=H2.out.own.rd;refine⟨⟨a2,c2,rfl,hr.fr (by first|exact Fr.refl _ _|exact Fr.drewN _ _ _)⟩,?_⟩;have f2:Fr [] w w.drew:=Fr.av [] w;exact ((f2.step H1.l1 (λy hy=>.inr (by simp at hy;rw[hy,HB.o0];exact aw _))).step H2.out.fr (λy hy=>.inr (by simp[ae]at hy;rw[hy,HB.o0];exact aw _)))
theorem qv3 (a:Option Addr) (cap:Nat) (bs:List UInt8) (w:World) (h:Rd w a cap bs):Calls Tryz.prog 69 #[.int .i64 2,.slice a bs.length cap] w λe w'=>(∃ao c,e = .returned (.slice ao 4 c)/\Rd w' ao c (sums.gh (crc bs)))/\Fr [] w w':=by have H:=af h;clear h;go_enter Tryz.func69,Tryz.ntmps69;go_upto_region 2 with (go_at_call 106;refine (qze _).mono ?_;rintro e w1 ⟨rfl,A1,f1⟩);have hw:=qv0 w.heap.size 4294967295 cap a bs w1 A1 (H.out.fr f1) (λhb x hx=>by have:=Ag H.out hb x hx;omega);have H1:=ak hw f1;clear hw f1 A1;go_upto_region 3 with (go_at_call 94;refine H1.o0.mono ?_;rintro e w2 ⟨rfl,f2,A2⟩);have hs:=zda _ _ w2 A2;have H2:=ak hs f2;clear hs f2 A2;go_wp2_with (go_at_call 96;refine H2.o0.mono ?_;rintro e w3 ⟨⟨a3,c3,rfl,r3⟩,f3⟩);go_ret;exact⟨⟨a3,c3,rfl,r3⟩,(H1.l1.step H2.l1 (λy hy=>.inr (by simp at hy;rw[hy];exact aw _))).trans f3⟩
theorem zfn (bs:List UInt8):crc bs<4294967296:=by unfold crc;omega
theorem zeg (a:Option Addr) (cap:Nat) (bs:List UInt8) (w:World) (h:Rd w a cap bs):Calls Tryz.prog 76 #[.slice a bs.length cap] w λe w'=>e = .returned (.int .u32 (crc bs:Nat))/\Fr [] w w':=by
 have hw:=qv3 a cap bs w h;have hn:=λa cap w h=>sums.qn3 a cap (crc bs) w (zfn bs) h
 have H:=ak hw hn;clear hw hn h;go_enter Tryz.func76,Tryz.ntmps76;go_wp2_with (first|(go_at_call 69;refine H.o0.mono ?_;rintro e w1 ⟨⟨a1,c1,rfl,r1⟩,f1⟩;have H1:=ak r1 f1;clear r1 f1)|(go_at_call 111;refine (H.l1 a1 c1 _ H1.o0).mono ?_;rintro e w2 ⟨rfl,f2⟩));go_ret;exact⟨rfl,H1.l1.trans f2⟩
end crc
namespace pk
open Go Go.RowKit lib bm
theorem cm:(Tryz.prog.info? 65).map (·.size)=some 7:=by kernel_rfl
theorem Fx {fn:Func} {p u:Tmp} (h:fn.results=#[.cell p 65,.tmp u]) (tmps:Array Value) (w:World) (g:Nat) (cs:Array Value) (fr:Nat×Nat)
  (hp:tmps.getD p undef = .pointer (some ⟨g,0,none⟩)) (hg:w.heap[g]?=some (.cells cs 65 fr)) (hs:cs.size=7) :
  (results fn tmps).run Tryz.prog w = .ok (.tuple #[.agg cs,tmps.getD u undef]) w:=by
 rw[results_cell_tmp h];have h1:=run_loadVar_row (P:=Tryz.prog) w g 65 65 cs fr _ hg Tryz.underlying65 rfl (by rw[cm,hs]);simp only[hp,asAddr,Sem.run_pure,Ha,h1]
theorem qH.PK {S:List Nat} {w w':World} {r:Nat} {a:Option Addr} {cap at_:Nat} {bs:List UInt8} (h:qH w r a cap bs at_) (f:Fr S w w') (hr:r∉S) (hn:bs≠[]->∀x∈ae a,x∉S):qH w' r a cap bs at_:=
 ⟨f.ae h.box hr,zF h.rd f hn,h.le,h.off⟩
theorem za9 {bs out:List UInt8} {m k:Nat} (h:inf.mP bs m = .ok (out,k)):k<=bs.length:=by
 unfold inf.mP at h;split at h
 ·cases h
 ·split at h
  ·cases h
  ·split at h
   ·cases h
   ·split at h
    ·cases h
    ·split at h
     ·simp only[gA,fj]at h;omega
     ·cases h
def rS (x:eo) (da:Option Addr) (dc:Nat):Array Value:=#[.int .i64 (x.kind:Nat),.int .i64 (x.at_:Nat),.int .i64 (x.size:Nat),.int .u32 (x.crc:Nat),.slice da x.data.length dc,.string (str x.base),.int .i64 (x.off:Nat)]
def JU (w:World) (r:Nat) (a:Option Addr) (cap:Nat) (bs:List UInt8) (P:Except Nat (eo×Nat)) (e:Ending) (w':World):Prop:=
 Fr [r] w w'/\((∃x V,P = .error x/\0<x/\x<100/\e = .returned (.tuple #[.agg V,.int .i64 (x:Nat)])/\V.size=7/\V.all (·.oneCell')=true)\/
  ∃x q da,P = .ok (x,q)/\e = .returned (.tuple #[.agg (rS x da x.data.length),.int .i64 0])/\qH w' r a cap bs q/\lib.Rd w' da x.data.length x.data/\(∀y∈ae da,w.heap.size<=y/\y<w'.heap.size))
theorem qvd (r:Nat) (a:Option Addr) (cap:Nat) (bs:List UInt8) (at_:Nat) (w:World) (h:qH w r a cap bs at_) (hlen:bs.length<=100000000) :
  Calls Tryz.prog 44 #[.pointer (some ⟨r,0,none⟩)] w (JU w r a cap bs (nG bs at_)):=by
 obtain⟨P,hP⟩:=ah (nG bs at_);rw[<-hP];unfold nG at hP;have hrw:=lt_of_block h.box;have c1:w.cell? ⟨r,1,none⟩=some (.int .i64 at_):=by rw[cell_of h.box];rfl
 have halt:bs≠[]->∀x∈ae a,x<w.heap.size:=λhb=>Ag h.rd hb
 have H:=aF h hlen hP halt;have hle:=h.le;clear h hlen hP halt;go_enter Tryz.func44,Tryz.ntmps44;go_upto_region 2 with fail;obtain⟨B,w1,hB,cD,fx,f1⟩:∃B w1,B=w.heap.size/\w1=w.alloc (.cells #[.int .i64 0,.int .i64 (at_:Nat),.int .i64 0,.int .u32 0,.slice none 0 0,.string ⟨#[]⟩,.int .i64 0] 65)/\w1.heap[B]?=some (.cells #[.int .i64 0,.int .i64 (at_:Nat),.int .i64 0,.int .u32 0,.slice none 0 0,.string ⟨#[]⟩,.int .i64 0] 65 (0,0))/\Fr [] w w1:=
  ⟨_,_,rfl,rfl,bx w _,(Fr.refl [] w).alloc _⟩
 rw[<-cD,<-hB];have hBr:r≠B:=by omega
 have LU:=H.o0.fr f1;have hd:=qyc r a cap bs at_ w1 LU H.o1;have hBa:bs≠[]->∀x∈ae a,x≠B:=λhb x hx=>by have:=H.l3 hb x hx;omega
 have H1:=aP fx f1 hd hB hBa;clear fx f1 hd hB cD LU c1 hBa;go_upto_region 3 with (go_at_call 73;refine H1.o2.mono ?_;rintro e w2 ⟨f2,h2⟩;have jY:=f2.ae H1.o0 (by simp;omega);have c0:=cell_of jY 0;have c2:=cell_of jY 2;have z0:=aO jY 0;have z2:=aO jY 2;simp only[bw,aV,bN]at c0 c2;have H2:=ak jY f2;clear jY f2;rcases h2 with⟨x,hx,k0,k1,rfl⟩|⟨k,s,n,hk,hk8,hs,rfl,LR⟩)
 ·obtain⟨w3,gN,jd,f3⟩:∃w3,w3=(w2.setCell ⟨B,0,none⟩ (.int .i64 0)).setCell ⟨B,2,none⟩ (.int .i64 0)/\w3.heap[B]?=some (.cells #[.int .i64 0,.int .i64 (at_:Nat),.int .i64 0,.int .u32 0,.slice none 0 0,.string ⟨#[]⟩,.int .i64 0] 65 (0,0))/\Fr [r] w w3:=
   ⟨_,rfl,(aX (aX H2.o0 _) _).trans rfl,((((H1.o1.mono (T:=[r]) (by simp)).trans H2.l1).setCell (.inr (by rw[H1.o3];exact aw _)) _).setCell (.inr (by rw[H1.o3];exact aw _)) _)⟩
  rw[<-gN]
  have HX:=au jd f3 hx
  have d0:((x:Int)!=0)=true:=by simp;omega
  clear jd f3 hx gN c0 c2 z0 z2
  go_wp2_with (first|(refine wpList_load_row rfl 65 (.tmp 2) rfl B rfl 65 #[.int .i64 0,.int .i64 at_,.int .i64 0,.int .u32 0,.slice none 0 0,.string ⟨#[]⟩,.int .i64 0] (0,0) _ HX.o0 Tryz.underlying65 rfl cm ?_)|(refine wpList_store_row rfl 65 (.tmp 2) (.tmp 25) rfl B #[.int .i64 0,.int .i64 at_,.int .i64 0,.int .u32 0,.slice none 0 0,.string ⟨#[]⟩,.int .i64 0] rfl rfl 65 #[.int .i64 0,.int .i64 at_,.int .i64 0,.int .u32 0,.slice none 0 0,.string ⟨#[]⟩,.int .i64 0] HX.o0 cm rfl (by kernel_rfl) ?_))
  refine bodyPost_ret (Fx rfl _ _ B #[.int .i64 0,.int .i64 at_,.int .i64 0,.int .u32 0,.slice none 0 0,.string ⟨#[]⟩,.int .i64 0] (0,0) rfl (setRow_heap _ _ _ _ _ _ HX.o0) rfl) rfl ?_
  exact⟨HX.l1.1.setRow (.inr (by rw[H1.o3];exact aw _)) _,.inl ⟨x,_,by rw[H.o2,HX.l1.2],k0,k1,rfl,rfl,by kernel_rfl⟩⟩
 ·obtain⟨w3,gN,jd,f3,f23⟩:∃w3,w3=(w2.setCell ⟨B,0,none⟩ (.int .i64 (k:Nat))).setCell ⟨B,2,none⟩ (.int .i64 (s:Nat))/\w3.heap[B]?=some (.cells #[.int .i64 (k:Nat),.int .i64 (at_:Nat),.int .i64 (s:Nat),.int .u32 0,.slice none 0 0,.string ⟨#[]⟩,.int .i64 0] 65 (0,0))/\Fr [r] w w3/\Fr [B] w2 w3:=
   ⟨_,rfl,(aX (aX H2.o0 _) _).trans rfl,((((H1.o1.mono (T:=[r]) (by simp)).trans H2.l1).setCell (.inr (by rw[H1.o3];exact aw _)) _).setCell (.inr (by rw[H1.o3];exact aw _)) _),(((Fr.refl [B] w2).setCell (by simp) _).setCell (by simp) _)⟩
  rw[<-gN]
  have rX:=LR.PK f23 (by simp;omega) (λhb x hx hm=>H1.l4 hb x hx (by simpa using hm))
  have vQ:n<=(bs.drop at_).length:=(LZ _ _ _ _ _ hk).2.2.1
  rw[eQ]at vQ
  have qg:=(LZ _ _ _ _ _ hk).1
  obtain⟨p,hp⟩:=ah (at_+n)
  have hP:=H.o2
  rw[hk]at hP
  simp only at hP
  rw[<-hp]at hP rX
  have fN:p<=bs.length:=by omega
  have jX:=jd
  have c0:=cell_of jd 0
  have c1:=cell_of jd 1
  have z5:=aO jd 5
  have z6:=aO jd 6
  have c5:=cell_of jd 5
  have c6:=cell_of jd 6
  simp only[bw,aV,bN]at c0 c1 c5 c6
  have O7:bs≠[]:=λe=>by rw[e]at vQ;simp at vQ;omega
  have H3:=aP jd f3 rX hP hp
  have HN:=af O7
  clear jd jX f3 f23 rX hP hp hk gN vQ LR O7 z0 z2 c2
  go_upto_block 0 with fail
  go_cut [29] from 4 to 67 (λs29 wc=>∃base off q,gX bs at_ k p = .ok (base,off,q)/\wc.heap[B]?=some (.cells #[.int .i64 (k:Nat),.int .i64 (at_:Nat),.int .i64 (s:Nat),.int .u32 0,.slice none 0 0,.string (str base),.int .i64 (off:Nat)] 65 (0,0))/\qH wc r a cap bs q/\Fr [r] w wc)
  case first=>
   by_cases k6:k=6
   ·subst k6
    have hb:=qzi r a cap bs p w3 H3.o2 H.o1
    have kU:∀x,x=uB (bs.drop p)->gX bs at_ 6 p=match x with
      | .error e=>.error e
      | .ok (v,k)=>if v<1\/at_<v then .error 3 else .ok ([],at_-v,p+k):=by rintro x rfl;rfl
    obtain⟨Q,hQ⟩:=ah (uB (bs.drop p))
    have kU:=kU Q hQ
    rw[<-hQ]at hb
    have HQ:=au hb kU hQ
    clear hb kU hQ c0 c1 c5 c6 z5 z6
    go_upto_region 8 with (go_at_call 74;refine HQ.out.1.mono ?_;rintro e w4 ⟨f4,(⟨x,hx,k0,k1,rfl⟩|⟨v,m,hv,CP,rfl,mA⟩)⟩)
    ·have jX:=f4.ae H3.o0 (by simp;omega)
     have HX:=au jX (H3.o1.trans f4) hx
     have d0:((x:Int)!=0)=true:=by simp;omega
     clear jX f4 hx
     go_wp2_with (first|(refine wpList_load_row rfl 65 (.tmp 2) rfl B rfl 65 #[.int .i64 ((6:Nat):Int),.int .i64 at_,.int .i64 s,.int .u32 0,.slice none 0 0,.string ⟨#[]⟩,.int .i64 0] (0,0) _ HX.o0 Tryz.underlying65 rfl cm ?_)|(refine wpList_store_row rfl 65 (.tmp 2) (.tmp 38) rfl B #[.int .i64 ((6:Nat):Int),.int .i64 at_,.int .i64 s,.int .u32 0,.slice none 0 0,.string ⟨#[]⟩,.int .i64 0] rfl rfl 65 #[.int .i64 ((6:Nat):Int),.int .i64 at_,.int .i64 s,.int .u32 0,.slice none 0 0,.string ⟨#[]⟩,.int .i64 0] HX.o0 cm rfl (by kernel_rfl) ?_))
     refine bodyPost_ret (Fx rfl _ _ B #[.int .i64 ((6:Nat):Int),.int .i64 at_,.int .i64 s,.int .u32 0,.slice none 0 0,.string ⟨#[]⟩,.int .i64 0] (0,0) rfl (setRow_heap _ _ _ _ _ _ HX.o0) rfl) rfl ?_
     exact⟨HX.l1.1.setRow (.inr (by rw[H1.o3];exact aw _)) _,.inl ⟨x,_,by rw[H3.o3,HQ.out.2.1,HX.l1.2],k0,k1,rfl,rfl,by kernel_rfl⟩⟩
    ·have jX:=f4.ae H3.o0 (by simp;omega)
     have c1:=cell_of jX 1
     have c6:=cell_of jX 6
     have z6:=aO jX 6
     simp only[bw,aV,bN]at c1 c6
     have tE:gX bs at_ 6 p=if v<1\/at_<v then .error 3 else .ok ([],at_-v,p+m):=by rw[HQ.out.2.1,hv]
     have HX:=aF jX (H3.o1.trans f4) tE mA
     clear jX f4 hv tE mA
     by_cases uM:v=0
     ·subst uM
      have HV:=af (show gX bs at_ 6 p = .error 3 by rw[HX.l1.2.1,if_pos (by omega)])
      clear c1 c6 z6
      go_wp2_with (first|(refine wpList_load_row rfl 65 (.tmp 2) rfl B rfl 65 #[.int .i64 ((6:Nat):Int),.int .i64 at_,.int .i64 s,.int .u32 0,.slice none 0 0,.string ⟨#[]⟩,.int .i64 0] (0,0) _ HX.o0 Tryz.underlying65 rfl cm ?_)|(refine wpList_store_row rfl 65 (.tmp 2) (.tmp 48) rfl B #[.int .i64 ((6:Nat):Int),.int .i64 at_,.int .i64 s,.int .u32 0,.slice none 0 0,.string ⟨#[]⟩,.int .i64 0] rfl rfl 65 #[.int .i64 ((6:Nat):Int),.int .i64 at_,.int .i64 s,.int .u32 0,.slice none 0 0,.string ⟨#[]⟩,.int .i64 0] HX.o0 cm rfl (by kernel_rfl) ?_))
      refine bodyPost_ret (Fx rfl _ _ B #[.int .i64 ((6:Nat):Int),.int .i64 at_,.int .i64 s,.int .u32 0,.slice none 0 0,.string ⟨#[]⟩,.int .i64 0] (0,0) rfl (setRow_heap _ _ _ _ _ _ HX.o0) rfl) rfl ?_
      exact⟨HX.l1.1.setRow (.inr (by rw[H1.o3];exact aw _)) _,.inl ⟨3,_,by rw[H3.o3,HV.out],by decide,by decide,rfl,rfl,by kernel_rfl⟩⟩
     ·have d0:((v:Int)==0)=false:=by simp;omega
      by_cases hva:at_<v
      ·have HV:=af (show gX bs at_ 6 p = .error 3 by rw[HX.l1.2.1,if_pos (by omega)])
       clear c6 z6 uM
       go_wp2_with (first|(refine wpList_load_row rfl 65 (.tmp 2) rfl B rfl 65 #[.int .i64 ((6:Nat):Int),.int .i64 at_,.int .i64 s,.int .u32 0,.slice none 0 0,.string ⟨#[]⟩,.int .i64 0] (0,0) _ HX.o0 Tryz.underlying65 rfl cm ?_)|(refine wpList_store_row rfl 65 (.tmp 2) (.tmp 48) rfl B #[.int .i64 ((6:Nat):Int),.int .i64 at_,.int .i64 s,.int .u32 0,.slice none 0 0,.string ⟨#[]⟩,.int .i64 0] rfl rfl 65 #[.int .i64 ((6:Nat):Int),.int .i64 at_,.int .i64 s,.int .u32 0,.slice none 0 0,.string ⟨#[]⟩,.int .i64 0] HX.o0 cm rfl (by kernel_rfl) ?_))
       refine bodyPost_ret (Fx rfl _ _ B #[.int .i64 ((6:Nat):Int),.int .i64 at_,.int .i64 s,.int .u32 0,.slice none 0 0,.string ⟨#[]⟩,.int .i64 0] (0,0) rfl (setRow_heap _ _ _ _ _ _ HX.o0) rfl) rfl ?_
       exact⟨HX.l1.1.setRow (.inr (by rw[H1.o3];exact aw _)) _,.inl ⟨3,_,by rw[H3.o3,HV.out],by decide,by decide,rfl,rfl,by kernel_rfl⟩⟩
      ·have HV:=af (show gX bs at_ 6 p = .ok ([],at_-v,p+m) by rw[HX.l1.2.1,if_neg (by omega)])
       have d1:decide (at_<v)=false:=by simp;omega
       obtain⟨off,kG⟩:=ah (at_-v)
       have zcB:(at_:Int)-v=(off:Int):=by omega
       have HO:=af kG
       have vO:off<=100000000:=by have:=H.o1;omega
       have zaN:v<=at_:=by omega
       clear hva uM kG
       go_wp2
       go_meet
       case rel=>exact⟨[],off,p+m,by rw[HV.out,HO.out],(aX HX.o0 _).trans rfl,HX.l1.2.2.PK ((Fr.refl [B] w4).setCell (by simp) _) (by simp;omega) (λhb x hx hm=>H1.l4 hb x hx (by simpa using hm)),HX.l1.1.setCell (.inr (by rw[H1.o3];exact aw _)) _⟩
   ·have d6:((k:Int)==6)=false:=by simp;omega
    by_cases k7:k=7
    ·subst k7
     by_cases nP:bs.length-p<20
     ·have ht:=Fo r a cap bs p 20 w3 H3.o2 H.o1 (by omega)
      have kU:gX bs at_ 7 p = .error 4:=by unfold gX;rw[if_neg (by decide),if_pos rfl,if_pos nP]
      have HQ:=ak ht kU
      clear ht kU c0 c1 c5 c6 z5 z6 nP
      go_upto_region 15 with (go_at_call 43;refine HQ.out.1.mono ?_;rintro e w4 ⟨rfl,f4⟩)
      have jX:=f4.ae H3.o0 (by simp)
      have HX:=ak jX (H3.o1.step f4 (by simp))
      clear jX f4
      go_wp2_with (first|(refine wpList_load_row rfl 65 (.tmp 2) rfl B rfl 65 #[.int .i64 ((7:Nat):Int),.int .i64 at_,.int .i64 s,.int .u32 0,.slice none 0 0,.string ⟨#[]⟩,.int .i64 0] (0,0) _ HX.o0 Tryz.underlying65 rfl cm ?_)|(refine wpList_store_row rfl 65 (.tmp 2) (.tmp 63) rfl B #[.int .i64 ((7:Nat):Int),.int .i64 at_,.int .i64 s,.int .u32 0,.slice none 0 0,.string ⟨#[]⟩,.int .i64 0] rfl rfl 65 #[.int .i64 ((7:Nat):Int),.int .i64 at_,.int .i64 s,.int .u32 0,.slice none 0 0,.string ⟨#[]⟩,.int .i64 0] HX.o0 cm rfl (by kernel_rfl) ?_))
      refine bodyPost_ret (Fx rfl _ _ B #[.int .i64 ((7:Nat):Int),.int .i64 at_,.int .i64 s,.int .u32 0,.slice none 0 0,.string ⟨#[]⟩,.int .i64 0] (0,0) rfl (setRow_heap _ _ _ _ _ _ HX.o0) rfl) rfl ?_
      exact⟨HX.l1.setRow (.inr (by rw[H1.o3];exact aw _)) _,.inl ⟨4,_,by rw[H3.o3,HQ.out.2],by decide,by decide,rfl,rfl,by kernel_rfl⟩⟩
     ·have ht:=Cv r a cap bs p 20 w3 H3.o2 H.o1 (by omega)
      have kU:gX bs at_ 7 p = .ok (ib ((bs.drop p).take 20),0,p+20):=by unfold gX;rw[if_neg (by decide),if_pos rfl,if_neg nP]
      obtain⟨ap,bI⟩:=ah (cutAt a cap p)
      rw[<-bI]at ht
      have kE:((bs.drop p).take 20).length=20:=by rw[eJ,eQ];omega
      have Em:=λw' (f:Fr [r] w3 w')=>(zF H3.o2.rd f (λhb x hx hm=>H3.o2.off hb x hx (by simpa using hm))).mid p 20 (by omega)
      rw[<-bI]at Em
      obtain⟨bp,tZ⟩:=ah ((bs.drop p).take 20)
      rw[<-tZ]at kU kE Em
      have XS:=λw' (f:Fr [r] w3 w')=>QU ap (cap-p) bp w' (Em w' f) (by omega)
      rw[kE]at XS
      have HQ:=au ht kU XS
      clear ht kU c0 c1 c5 c6 z5 z6 nP bI kE Em tZ XS
      go_upto_region 17 with (go_at_call 43;refine HQ.out.1.mono ?_;rintro e w4 ⟨rfl,mA,f4⟩)
      have jX:=f4.ae H3.o0 (by simp;omega)
      have HX:=au jX f4 mA
      clear jX f4 mA
      go_wp2_with (go_at_call 46;refine (HQ.out.2.2 _ HX.l1.1).mono ?_;rintro e w5 ⟨rfl,f5⟩;have nO:=f5.ae HX.o0 (by simp);have c5:=cell_of nO 5;have z5:=aO nO 5;simp only[bw,aV,bN]at c5;have H5:=ak nO f5;clear nO f5)
      go_meet
      case rel=>exact⟨ib bp,0,p+20,HQ.out.2.1,(aX H5.o0 _).trans rfl,(HX.l1.2.fr H5.l1).PK ((Fr.refl [B] w5).setCell (by simp) _) (by simp;omega) (λhb x hx hm=>H1.l4 hb x hx (by simpa using hm)),((H3.o1.trans HX.l1.1).step H5.l1 (by simp)).setCell (.inr (by rw[H1.o3];exact aw _)) _⟩
    ·have d7:((k:Int)==7)=false:=by simp;omega
     have kU:gX bs at_ k p = .ok ([],0,p):=by unfold gX;rw[if_neg k6,if_neg k7]
     have HQ:=af kU
     clear kU k6 k7
     go_wp2
     go_meet
     case rel=>exact⟨[],0,p,HQ.out,H3.o0,H3.o2,H3.o1⟩
  case rest=>
   obtain⟨base,off,q,bT,jX,mA,f4⟩:=hcut
   obtain⟨hpq,Xd,bK,zaT⟩:=qtk fN bT
   obtain⟨L,hL⟩:=ah bs.length
   have YF:L<=100000000:=by rw[hL];exact H.o1
   have cP:=mA.rd.le
   have dv:=mA.rd.max
   unfold maxLen at dv
   obtain⟨Z,hZ⟩:=ah (inf.mP (bs.drop q) 65536)
   have hP:=H3.o3
   rw[bT]at hP
   simp only at hP
   rw[<-hZ]at hP
   have hz:∀w',Fr [] wc w'->Calls Tryz.prog 75 #[.slice (aL a cap q 1) (L-q:Nat) (cap-q),.int .i64 65536] w' (inf.pz w' Z):=λw' f=>by
    have:=inf.qzt (aL a cap q 1) (cap-q) (bs.drop q) 65536 w' ((mA.rd.fr f).drop q Xd) (by rw[eQ];omega) (by decide)
    rw[eQ,<-hL,<-hZ]at this
    exact this
   have c0:wc.drew.cell? ⟨r,0,none⟩=some (.slice a L cap):=(show wc.cell? _=_ by rw[cell_of mA.box,hL];rfl)
   have c1:wc.drew.cell? ⟨r,1,none⟩=some (.int .i64 q):=(show wc.cell? _=_ by rw[cell_of mA.box];rfl)
   rw[<-hL]at Xd cP fN hle
   have HB:=cz jX mA f4 hP hz hL hZ
   clear jX mA f4 hP hz bT hZ hL
   go_upto_region 18 with fail
   have s0:∀x,(sup [] wc.drew x).cell? ⟨r,0,none⟩=some (.slice a L cap):=λx=>(dk [] wc.drew x).cell c0 (by simp)
   have s1:∀x,(sup [] wc.drew x).cell? ⟨r,1,none⟩=some (.int .i64 q):=λx=>(dk [] wc.drew x).cell c1 (by simp)
   have hsl:=λw'=>lib.KL aq q a L cap (q:Nat) rfl Xd cP w'
   refine jh 17 [(false,0),(false,1),(false,2),(false,3),(false,4),(false,5),(false,6),(false,7),(false,8),(true,9),(false,10),(false,11),(false,12),(false,13),(false,14),(false,15),(false,16)] [] (by kernel_rfl) (by kernel_rfl) (λ_ _ d _ _ h=>by cases d<;>exact h) ?_
   simp only[iw]
   refine cS 9 rfl ?_
   simp only[aU]
   repeat (go_big_quiet_step (fail))
   refine wpQuiet_nil ?_
   clear s0 s1 hsl c0 c1
   refine ep rfl ?_
   intro X hX
   go_wp2_with (go_at_call 75;refine (HB.o4 _ (Fr.av [] wc)).mono ?_;rintro e w5 (⟨x,hx,k0,k1,rfl,f5⟩|⟨out,used,ao,jz,rfl,Dl,nbo,f5⟩))
   ·refine hX.out _ _ f5 ?_
    clear hX X
    refine cS 7 rfl ?_
    simp only[aU]
    repeat (go_big_quiet_step (fail))
    refine wpQuiet_nil ?_
    refine fE ?_
    have vV:=(Fr.av [] wc).trans f5
    have nO:=vV.ae HB.o0 (by simp)
    have HX:=au nO (HB.o2.step vV (by simp)) hx
    have d0:((x:Int)!=0)=true:=by simp;omega
    clear nO vV f5 hx
    go_wp2_with (first|(refine wpList_load_row rfl 65 (.tmp 2) rfl B rfl 65 #[.int .i64 k,.int .i64 at_,.int .i64 s,.int .u32 0,.slice none 0 0,.string (str base),.int .i64 off] (0,0) _ HX.o0 Tryz.underlying65 rfl cm ?_)|(refine wpList_store_row rfl 65 (.tmp 2) (.tmp 84) rfl B #[.int .i64 k,.int .i64 at_,.int .i64 s,.int .u32 0,.slice none 0 0,.string (str base),.int .i64 off] rfl rfl 65 #[.int .i64 k,.int .i64 at_,.int .i64 s,.int .u32 0,.slice none 0 0,.string (str base),.int .i64 off] HX.o0 cm rfl (by kernel_rfl) ?_))
    refine bodyPost_ret (Fx rfl _ _ B #[.int .i64 k,.int .i64 at_,.int .i64 s,.int .u32 0,.slice none 0 0,.string (str base),.int .i64 off] (0,0) rfl (setRow_heap _ _ _ _ _ _ HX.o0) rfl) rfl ?_
    exact⟨HX.l1.1.setRow (.inr (by rw[H1.o3];exact aw _)) _,.inl ⟨x,_,by rw[HB.o3,HX.l1.2],k0,k1,rfl,rfl,by kernel_rfl⟩⟩
   ·refine hX.out _ _ f5 ?_
    clear hX X
    refine cS 7 rfl ?_
    simp only[aU]
    repeat (go_big_quiet_step (fail))
    refine wpQuiet_nil ?_
    refine fE ?_
    have vV:=(Fr.av [] wc).trans f5
    have nO:=vV.ae HB.o0 (by simp)
    have c2:=cell_of nO 2
    simp only[bw,aV,bN]at c2
    have BJ:P=if out.length=s then .ok (⟨k,at_,s,crc.crc ((bs.drop at_).take (q+used-at_)),out,base,off⟩,q+used) else .error 3:=by rw[HB.o3,jz]
    have KZ:q+used<=L:=by
     have:=za9 (by rw[<-HB.l6];exact jz:inf.mP (bs.drop q) 65536 = .ok (out,used))
     rw[eQ,<-HB.o5]at this
     omega
    have FX:=Dl.max
    unfold maxLen at FX
    obtain⟨N,hN⟩:=ah out.length
    rw[<-hN]at BJ Dl FX ⊢
    have HX:=bJ nO vV BJ Dl nbo hN
    clear nO vV f5 jz BJ Dl nbo hN
    by_cases cB:N=s
    ·have zm:=HX.l1.2.1
     rw[if_pos cB]at zm
     have hd:((N:Int)!=s)=false:=by simp;omega
     have tR:=HB.o1.fr HX.l1.1
     have c0:w5.cell? ⟨r,0,none⟩=some (.slice a L cap):=by rw[cell_of tR.box,HB.o5];rfl
     have c1:w5.cell? ⟨r,1,none⟩=some (.int .i64 q):=by rw[cell_of tR.box];rfl
     have z1:=aO tR.box 1
     have Ci:=ak zm tR
     clear zm tR cB
     go_upto_region 24 with fail
     obtain⟨u,hu⟩:=ah (q+used)
     have eu:(q:Int)+(used:Int)=(u:Int):=by omega
     obtain⟨w6,pg⟩:∃w6,w6=w5.setCell ⟨r,1,none⟩ (.int .i64 ((q:Int)+(used:Int))):=⟨_,rfl⟩
     rw[<-pg]
     have f6:Fr [r] w5 w6:=by rw[pg];exact (Fr.refl [r] w5).setCell (by simp) _
     have BA:=aX (o:=1) Ci.out.2.box (.int .i64 ((q:Int)+(used:Int)))
     rw[<-pg,eu]at BA
     have ur:qH w6 r a cap bs u:=⟨BA.trans rfl,zF Ci.out.2.rd f6 (λhb x hx hm=>Ci.out.2.off hb x hx (by simpa using hm)),by rw[<-HB.o5,hu];exact KZ,Ci.out.2.off⟩
     have rQ:=f6.ae HX.o0 (by simp;omega)
     have k0:w6.drew.cell? ⟨r,0,none⟩=some (.slice a L cap):=(show w6.cell? _=_ by rw[cell_of ur.box,HB.o5];rfl)
     have k1:w6.drew.cell? ⟨r,1,none⟩=some (.int .i64 u):=(show w6.cell? _=_ by rw[cell_of ur.box];rfl)
     have k2:w6.drew.cell? ⟨B,1,none⟩=some (.int .i64 at_):=(show w6.cell? _=_ by rw[cell_of rQ];rfl)
     have s0:∀x,(sup [] w6.drew x).cell? ⟨r,0,none⟩=some (.slice a L cap):=λx=>(dk [] w6.drew x).cell k0 (by simp)
     have s1:∀x,(sup [] w6.drew x).cell? ⟨r,1,none⟩=some (.int .i64 u):=λx=>(dk [] w6.drew x).cell k1 (by simp)
     have s2:∀x,(sup [] w6.drew x).cell? ⟨B,1,none⟩=some (.int .i64 at_):=λx=>(dk [] w6.drew x).cell k2 (by simp)
     obtain⟨m,hm⟩:=ah (u-at_)
     have hmu:at_+m=u:=by have:=H3.l4;omega
     have hsl:=λw'=>lib.run_slice_lh aq at_ m a L cap (at_:Nat) (u:Nat) rfl (by omega) (by omega) w'
     obtain⟨cr,Ln⟩:=ah (crc.crc ((bs.drop at_).take m))
     have kv:∀w',Fr [] w6 w'->Calls Tryz.prog 76 #[.slice (cutAt a cap at_) m (cap-at_)] w' λe EY=>e = .returned (.int .u32 cr)/\Fr [] w' EY:=λw' f=>by
      have lh:=(ur.rd.fr f).mid at_ m (by have:=HB.o5;omega)
      have:=crc.zeg _ _ _ w' lh
      rwa [show ((bs.drop at_).take m).length=m by rw[eJ,eQ];have:=HB.o5;omega,<-Ln]at this
     have HD:=cz rQ ur f6 kv Ln hm hu
     clear rQ ur f6 kv Ln BA pg eu hu hm KZ c0 c1 c2 z1 k0 k1 k2
     refine jh 14 [(false,0),(false,1),(false,2),(false,3),(false,4),(false,5),(false,6),(false,7),(false,8),(false,9),(false,10),(false,11),(false,13),(true,12)] [] (by kernel_rfl) (by kernel_rfl) (λ_ _ d _ _ h=>by cases d<;>exact h) ?_
     simp only[iw]
     refine cS 13 rfl ?_
     simp only[aU]
     repeat (go_big_quiet_step (fail))
     refine wpQuiet_nil ?_
     clear s0 s1 s2 hsl
     refine ep rfl ?_
     intro X hX
     go_wp2_with (go_at_call 76;refine (HD.o3 _ (Fr.av [] w6)).mono ?_;rintro e w7 ⟨rfl,f7⟩)
     refine hX.out _ _ f7 ?_
     clear hX X
     refine fE ?_
     have YZ:=(Fr.av [] w6).trans f7
     have Lq:=YZ.ae HD.o0 (by simp)
     have c3:=cell_of Lq 3
     have c4:=cell_of Lq 4
     have z3:=aO Lq 3
     have z4:=aO Lq 4
     simp only[bw,aV,bN]at c3 c4
     have H7:=ak Lq YZ
     clear Lq YZ f7
     go_upto_region 25 with fail
     obtain⟨w8,Se⟩:∃w8,w8=(w7.setCell ⟨B,4,none⟩ (.slice ao N N)).setCell ⟨B,3,none⟩ (.int .u32 (cr:Nat)):=⟨_,rfl⟩
     rw[<-Se]
     have qC:w8.heap[B]?=some (.cells #[.int .i64 k,.int .i64 at_,.int .i64 s,.int .u32 cr,.slice ao N N,.string (str base),.int .i64 off] 65 (0,0)):=by rw[Se];exact (aX (aX H7.o0 _) _).trans rfl
     have f8:Fr [B] w7 w8:=by rw[Se];exact ((Fr.refl [B] w7).setCell (by simp) _).setCell (by simp) _
     have H8:=ak qC f8
     clear qC f8 Se c3 c4 z3 z4
     go_wp2_with (first|(refine wpList_load_row rfl 65 (.tmp 2) rfl B rfl 65 #[.int .i64 k,.int .i64 at_,.int .i64 s,.int .u32 cr,.slice ao N N,.string (str base),.int .i64 off] (0,0) _ H8.o0 Tryz.underlying65 rfl cm ?_)|(refine wpList_store_row rfl 65 (.tmp 2) (.tmp 115) rfl B #[.int .i64 k,.int .i64 at_,.int .i64 s,.int .u32 cr,.slice ao N N,.string (str base),.int .i64 off] rfl rfl 65 #[.int .i64 k,.int .i64 at_,.int .i64 s,.int .u32 cr,.slice ao N N,.string (str base),.int .i64 off] H8.o0 cm rfl (by kernel_rfl) ?_))
     refine bodyPost_ret (Fx rfl _ _ B #[.int .i64 k,.int .i64 at_,.int .i64 s,.int .u32 cr,.slice ao N N,.string (str base),.int .i64 off] (0,0) rfl (setRow_heap _ _ _ _ _ _ H8.o0) rfl) rfl ?_
     have fB:Fr [B] w6 (w8.setRow B #[.int .i64 k,.int .i64 at_,.int .i64 s,.int .u32 cr,.slice ao N N,.string (str base),.int .i64 off]):=((H7.l1.mono (T:=[B]) (by simp)).trans H8.l1).setRow (by simp) _
     have f56:Fr [r] w5 w6:=HD.o2
     have cC:Fr [r] w (w8.setRow B #[.int .i64 k,.int .i64 at_,.int .i64 s,.int .u32 cr,.slice ao N N,.string (str base),.int .i64 off]):=((HB.o2.step HX.l1.1 (by simp)).trans f56).step fB (λy hy=>.inr (by simp at hy;rw[hy,H1.o3];exact aw _))
     have mR:=HB.o2.size
     have tG:∀y∈ae ao,w.heap.size<y/\y<w5.heap.size:=λy hy=>by
      have h1:=HX.l1.2.2.2.1 y hy
      have h2:=lt_of_block HB.o0
      have h3:=H1.o3
      have h4:wc.drew.heap.size=wc.heap.size:=rfl
      omega
     refine⟨cC,.inr ⟨⟨k,at_,s,cr,out,base,off⟩,u,ao,?_,?_,HD.o1.PK fB (by simp;omega) (λhb x hx hm=>H1.l4 hb x hx (by simpa using hm)),?_,λy hy=>⟨Nat.le_of_lt (tG y hy).1,eT (tG y hy).2 (bS f56.size fB.size)⟩⟩⟩
     ·rw[Ci.out.1,HD.o4,HD.o5,HD.l6]
     ·show _=Ending.returned (.tuple #[.agg (rS ⟨k,at_,s,cr,out,base,off⟩ ao out.length),.int .i64 0])
      unfold rS
      rw[<-HX.l1.2.2.2.2]
      rfl
     ·show lib.Rd _ ao out.length out
      rw[<-HX.l1.2.2.2.2]
      exact (HX.l1.2.2.1.gg f56 (λx hx hm=>by have:=(tG x hx).1;simp at hm;omega)).gg fB (λx hx hm=>by have:=(tG x hx).1;have h3:=H1.o3;simp at hm;omega)
    ·have zm:=HX.l1.2.1
     rw[if_neg cB]at zm
     have hd:((N:Int)!=s)=true:=by simp;omega
     have Ci:=af zm
     clear zm
     go_wp2_with (first|(refine wpList_load_row rfl 65 (.tmp 2) rfl B rfl 65 #[.int .i64 k,.int .i64 at_,.int .i64 s,.int .u32 0,.slice none 0 0,.string (str base),.int .i64 off] (0,0) _ HX.o0 Tryz.underlying65 rfl cm ?_)|(refine wpList_store_row rfl 65 (.tmp 2) (.tmp 91) rfl B #[.int .i64 k,.int .i64 at_,.int .i64 s,.int .u32 0,.slice none 0 0,.string (str base),.int .i64 off] rfl rfl 65 #[.int .i64 k,.int .i64 at_,.int .i64 s,.int .u32 0,.slice none 0 0,.string (str base),.int .i64 off] HX.o0 cm rfl (by kernel_rfl) ?_))
     refine bodyPost_ret (Fx rfl _ _ B #[.int .i64 k,.int .i64 at_,.int .i64 s,.int .u32 0,.slice none 0 0,.string (str base),.int .i64 off] (0,0) rfl (setRow_heap _ _ _ _ _ _ HX.o0) rfl) rfl ?_
     exact⟨(HB.o2.step HX.l1.1 (by simp)).setRow (.inr (by rw[H1.o3];exact aw _)) _,.inl ⟨3,_,Ci.out,by decide,by decide,rfl,rfl,by kernel_rfl⟩⟩
abbrev EM:=eo×Option Addr
def rT (m:EM):List Value:=(rS m.1 m.2 m.1.data.length).toList
def dJ (ms:List EM):List Value:=ms.flatMap rT
theorem qq3 (ms:List EM):(dJ ms).length=ms.length*7:=UI rT 7 (λ_=>rfl) ms
theorem qq4 (a b:List EM):dJ (a++b)=dJ a++dJ b:=by unfold dJ;rw[Hu]
theorem zbs (m:EM):∀u∈rT m,u.oneCell'=true:=by intro u hu;simp only[rT,rS,gw,v7,or_false]at hu;rcases hu with rfl|rfl|rfl|rfl|rfl|rfl|rfl<;>rfl
theorem zdb:ax Tryz.prog 40 65 (.agg #[.int .i64 0,.int .i64 0,.int .i64 0,.int .u32 0,.slice none 0 0,.string ⟨#[]⟩,.int .i64 0]) 7 80:=ax.of Tryz.underlying40 (by kernel_rfl) rfl (by decide)
structure lv (w:World) (a:Option Addr) (ms:List EM):Prop where
 cs:Cs w a (dJ ms)
 dat:∀m∈ms,lib.Rd w m.2 m.1.data.length m.1.data
theorem lv.fr {w w':World} {a:Option Addr} {ms:List EM} (h:lv w a ms) (f:Fr [] w w'):lv w' a ms:=⟨h.cs.fr f (by simp),λm hm=>(h.dat m hm).fr f⟩
theorem qy5 (ao:Option Addr) (len cap:Nat) (w:World) (hle:len<=cap) (dv:cap<=maxLen) :
  Calls Tryz.prog 45 #[.slice ao len cap] w λe w'=>e = .returned (.slice ao len len)/\w'=w:=by
 go_enter Tryz.func45,Tryz.ntmps45;go_wp2;all_goals go_ret
 all_goals exact⟨by first|rfl|simp,rfl⟩
structure J3 (w wr:World) (R:Nat) (a:Option Addr) (c:Nat) (ms:List EM):Prop where
 own:wr.ownsRow 0 65 7 (.slice a ms.length c) ms.length (dJ ms)
 fr:Fr [] w wr
 new:∀x∈ae a,w.heap.size<=x/\x≠R
 dat:∀m∈ms,lib.Rd wr m.2 m.1.data.length m.1.data/\∀y∈ae m.2,w.heap.size<=y/\y<wr.heap.size/\y∉ae a/\y≠R
theorem J3.start (w w':World) (R:Nat) (f:Fr [] w w'):J3 w w' R none 0 []:=⟨v8 _ _ _ _,f,by simp[ae],by simp⟩
theorem J3.more {w wr w1 w2:World} {R:Nat} {a a2:Option Addr} {c c2:Nat} {ms:List EM} {m:EM} (h:J3 w wr R a c ms) (hR:w.heap.size<=R) (Gu:R<wr.heap.size) (f:Fr [R] wr w1)
  (hd:lib.Rd w1 m.2 m.1.data.length m.1.data) (hn:∀y∈ae m.2,wr.heap.size<=y/\y<w1.heap.size)
  (A:aW w1 w2 65 7 (ae a) a2 (ms.length+1) c2 (dJ ms++rT m)):J3 w w2 R a2 c2 (ms++[m]):=by
 have f0:Fr [] w w1:=h.fr.step f (λy hy=>.inr (by simp at hy;omega));have f2:Fr [] w w2:=f0.step A.fr (λy hy=>.inr (h.new y hy).1);have hs:=f.size;have kF:=h.fr.size;have dz:∀y∈ae a,y<wr.heap.size:=λy hy=>qR h.own (pI hy)
 have key:∀m':EM,lib.Rd w1 m'.2 m'.1.data.length m'.1.data->(∀y∈ae m'.2,w.heap.size<=y/\y<w1.heap.size/\y∉ae a/\y≠R)->lib.Rd w2 m'.2 m'.1.data.length m'.1.data/\∀y∈ae m'.2,w.heap.size<=y/\y<w2.heap.size/\y∉ae a2/\y≠R:=λm' r k=>
  ⟨r.gg A.fr (λx hx=>(k x hx).2.2.1),λy hy=>⟨(k y hy).1,eT (k y hy).2.1 A.fr.size,λhm=>by
   rcases A.at_ y hm with q|q
   ·exact (k y hy).2.2.1 q
   ·have:=(k y hy).2.1;omega,(k y hy).2.2.2⟩⟩
 refine⟨?_,f2,λy hy=>?_,λm' jA=>?_⟩
 ·rw[qq4,aK];have:dJ [m]=rT m:=by simp[dJ]
  rw[this];exact A.own
 ·rcases A.at_ y hy with q|q
  ·exact h.new y q
  ·omega
 ·rcases jy.1 jA with q|q
  ·obtain⟨r,k⟩:=h.dat m' q;exact key m' (zF r f (λ_ x hx hm=>(k x hx).2.2.2 (by simpa using hm))) (λy hy=>⟨(k y hy).1,by have:=(k y hy).2.1;omega,(k y hy).2.2⟩)
  ·obtain rfl:m'=m:=by simpa using q
   exact key m' hd (λy hy=>⟨by have:=(hn y hy).1;omega,(hn y hy).2,λhm=>by have:=dz y hm;have:=(hn y hy).1;omega,by have:=(hn y hy).1;omega⟩)
theorem qy3 (w:World):Calls Tryz.prog 60 #[.slice none 0 0] w λe w'=>e = .returned (.slice none 0 0)/\w'=w:=by
 have qT:∀(w:World) (a:Option Addr) (n c n' c':Nat),(binOp .eql 27 (.slice a n c) (.slice none n' c')).run Tryz.prog w = .ok (.bool a.isNone) w:=λw a n c n' c'=>Lib.run_eql_slice_nil w _ _ a n c n' c' Tryz.underlying27
 go_enter Tryz.func60,Tryz.ntmps60;go_wp2;go_ret;exact⟨rfl,rfl⟩
theorem qx0 (v:Value) (w:World):Calls Tryz.prog 64 #[.slice none 0 0,v] w λe w'=>e = .returned (.int .i64 (-1))/\w'=w:=by
 go_enter Tryz.func64,Tryz.ntmps64;go_wp2;go_loopg [8] 0 (λk s8 wr=>s8 = .int .i64 0/\wr=w);case atStart=>exact⟨rfl,rfl⟩
 case round=>
 obtain⟨rfl,rfl⟩:=hrel;go_wp2;go_ret;exact⟨rfl,rfl⟩
theorem VF (v:Value) (w:World):Calls Tryz.prog 32 #[.slice none 0 0,v] w λe w'=>e = .returned (.slice none 0 0)/\w'=w:=by go_enter Tryz.func32,Tryz.ntmps32;go_wp2_with (go_at_call 64;refine (qx0 _ _).mono ?_;rintro e w2 ⟨rfl,hw⟩;obtain rfl:=hw.symm);go_ret;exact⟨rfl,rfl⟩
theorem UE (w:World):Calls Tryz.prog 42 #[.slice none 0 0] w λe w'=>e = .returned (.slice none 0 0)/\w'=w:=by go_enter Tryz.func42,Tryz.ntmps42;go_wp2;go_ret;exact⟨rfl,rfl⟩
theorem insert_nil (v:Value) (w:World):Calls Tryz.prog 107 #[.slice none 0 0,.int .i64 0,.int .i64 0,v] w λe w'=>e = .returned (.tuple #[])/\w'=w:=by
 go_enter Tryz.func107,Tryz.ntmps107;go_wp2;go_loopg [8] 0 (λk s8 wr=>s8 = .int .i64 1/\wr=w);case atStart=>exact⟨rfl,rfl⟩
 case round=>
 obtain⟨rfl,rfl⟩:=hrel;go_wp2;exact bodyPost_end (results_none rfl _ _ _) rfl ⟨rfl,rfl⟩
theorem quq (v:Value) (w:World):Calls Tryz.prog 70 #[.slice none 0 0,.int .i64 0,v] w λe w'=>e = .returned (.tuple #[])/\w'=w:=by
 go_enter Tryz.func70,Tryz.ntmps70;go_wp2;go_loopg [7,8] 0 (λk s7 s8 wr=>s7 = .int .i64 0/\s8 = .int .i64 20/\wr=w);case atStart=>exact⟨rfl,rfl,rfl⟩
 case round=>
 obtain⟨rfl,rfl,rfl⟩:=hrel;go_wp2_with (go_at_call 107;refine (insert_nil _ _).mono ?_;rintro e w2 ⟨rfl,hw⟩;obtain rfl:=hw.symm);go_loopg [6] 0 (λk s6 wr2=>s6 = .int .i64 20/\wr2=wr);case atStart=>exact⟨rfl,rfl⟩
 case round=>
 obtain⟨rfl,rfl⟩:=hrel;go_wp2;exact bodyPost_end (results_none rfl _ _ _) rfl ⟨rfl,rfl⟩
theorem UR (v:Value) (w:World):Calls Tryz.prog 38 #[.slice none 0 0,v] w λe w'=>e = .returned (.tuple #[])/\w'=w:=by go_enter Tryz.func38,Tryz.ntmps38;go_wp2_with (go_at_call 70;refine (quq _ _).mono ?_;rintro e w2 ⟨rfl,hw⟩;obtain rfl:=hw.symm);exact bodyPost_end (results_none rfl _ _ _) rfl ⟨rfl,rfl⟩
theorem Vj (w:World):Calls Tryz.prog 31 #[.slice none 0 0] w λe w'=>e = .returned (.slice none 0 0)/\w'=w:=by
 go_enter Tryz.func31,Tryz.ntmps31;go_wp2_with (first
  | (go_at_call 60;refine (qy3 _).mono ?_;rintro e w2 ⟨rfl,hw⟩;obtain rfl:=hw.symm)
  | (go_at_call 32;refine (VF _ _).mono ?_;rintro e w2 ⟨rfl,hw⟩;obtain rfl:=hw.symm))
 go_ret;exact⟨rfl,rfl⟩
theorem qw9 (w:World):Calls Tryz.prog 17 #[.slice none 0 0] w λe w'=>e = .returned (.slice none 0 0)/\Fr [] w w':=by
 have lf:=λw'=>run_makeMap (P:=Tryz.prog) 75 w'
 go_enter Tryz.func17,Tryz.ntmps17;go_wp2_with (first
  | (go_at_call 38;refine (UR _ _).mono ?_;rintro e w2 ⟨rfl,hw⟩;obtain rfl:=hw.symm)
  | (go_at_call 42;refine (UE _).mono ?_;rintro e w2 ⟨rfl,hw⟩;obtain rfl:=hw.symm))
 go_loopg [5,11] 0 (λk s5 s11 wr=>s5 = .slice none 0 0/\s11 = .int .i64 0/\Fr [] w wr);case atStart=>exact⟨rfl,rfl,((Fr.refl [] w).alloc _).alloc _⟩
 case round=>
 obtain⟨rfl,rfl,hf⟩:=hrel;clear lf;go_wp2_with (first
  | (go_at_call 38;refine (UR _ _).mono ?_;rintro e w2 ⟨rfl,hw⟩;obtain rfl:=hw.symm)
  | (go_at_call 42;refine (UE _).mono ?_;rintro e w2 ⟨rfl,hw⟩;obtain rfl:=hw.symm))
 go_ret;exact⟨rfl,hf⟩
def bh:List UInt8:=[80,65,67,75,0,0,0,2,0,0,0,0]
end pk
namespace pk
open Go Go.RowKit lib
def Af (l:List UInt8) (n i k:Nat):UInt8:=if k<i\/n<=k+i then l[n-1-k]?.getD 0 else l[k]?.getD 0
theorem zad {l:List UInt8} {n i j:Nat} (h:i+j+1=n) (jW:i<j) (k:Nat) (hk:k<n):Af l n (i+1) k=if k=i then Af l n i j else if k=j then Af l n i i else Af l n i k:=by
 unfold Af;by_cases h1:k=i
 ·subst h1;rw[if_pos (by omega),if_pos rfl,if_neg (by omega),show n-1-k=j by omega]
 ·by_cases h2:k=j
  ·subst h2;rw[if_pos (by omega),if_neg h1,if_pos rfl,if_neg (by omega),show n-1-k=i by omega]
  ·rw[if_neg h1,if_neg h2];by_cases h3:k<i\/n<=k+i
   ·rw[if_pos (by omega),if_pos h3]
   ·rw[if_neg (by omega),if_neg h3]
theorem zdg {l:List UInt8} {n i j:Nat} (hl:l.length=n) (h:i+j+1=n) (jW:¬i<j) (k:Nat) (hk:k<n) (h1:i<=j+1):Af l n i k=l.reverse[k]?.getD 0:=by
 rw[List.getElem?_reverse (by omega),hl];unfold Af;by_cases h3:k<i\/n<=k+i
 ·rw[if_pos h3]
 ·rw[if_neg h3,show n-1-k=k by omega]
theorem zdi (g n cap:Nat) (A0:Array Value) (l:List UInt8) (w:World) (hA:w.heap[g]?=some (.cells A0 5 (0,0))) (hl:l.length=n) (h1:1<=n) (hn:n<=100000000) (IQ:n<=cap) (hc:∀k,k<n->A0[k]?=some (.int .u8 ((l[k]?.getD 0).toNat:Nat))) :
  Calls Tryz.prog 28 #[.slice (some ⟨g,0,none⟩) n cap] w λe w'=>e = .returned (.tuple #[])/\Fr [g] w w'/\∃A',w'.heap[g]?=some (.cells A' 5 (0,0))/\A'.size=A0.size/\∀k,k<n->A'[k]?=some (.int .u8 ((l.reverse[k]?.getD 0).toNat:Nat)):=by
 have H0:=au hA hl hc;clear hA hl hc;obtain⟨N,hN⟩:∃N:Int,N=(n:Int)-1:=⟨_,rfl⟩;go_enter Tryz.func28,Tryz.ntmps28;go_wp2;go_loopg [2,3] n (λk s2 s3 wr=>∃i j:Nat,s2 = .int .i64 (i:Nat)/\s3 = .int .i64 (j:Nat)/\i+j+1=n/\i<=j+1/\i+k=n/\Fr [g] w wr/\∃A',wr.heap[g]?=some (.cells A' 5 (0,0))/\A'.size=A0.size/\∀k,k<n->A'[k]?=some (.int .u8 ((Af l n i k).toNat:Nat)));case atStart=>exact⟨0,n-1,rfl,by go_num,by omega,by omega,by omega,Fr.refl _ _,A0,H0.o0,rfl,λk hk=>by rw[H0.l2 k hk];unfold Af;rw[if_neg (by omega)]⟩
 case round=>
  obtain⟨i,j,rfl,rfl,jW,Oy,bU,hf,A,hA,cG,EG⟩:=hrel;by_cases h:i<j
  ·obtain⟨k,rfl⟩:∃k,gk=k+1:=⟨gk-1,by omega⟩;have d0:=(cell_of hA i).trans (EG i (by omega));have d1:=(cell_of hA j).trans (EG j (by omega));obtain⟨x,hx⟩:=ah ((Af l n i i).toNat);obtain⟨y,hy⟩:=ah ((Af l n i j).toNat);rw[<-hx]at d0;rw[<-hy]at d1;have hxb:x<256:=by rw[hx];exact iB _
   have KT:y<256:=by rw[hy];exact iB _
   have HS:=bJ hA cG EG hx hy hf;clear hA cG EG hx hy hf;go_upto_region 3 with fail;refine DC [(0,0),(0,1),(0,2),(0,3),(0,4),(0,5),(0,6),(1,7),(0,8),(0,9),(0,10),(1,11),(0,12),(2,13),(0,14),(2,15)] [g] [13,15] (by kernel_rfl) (by kernel_rfl) (λ_ _ d _ _ h=>by cases d<;>exact h) ?_;simp only[gW,oJ,yT,yS];refine ko 7 rfl ?_;simp only[aU];repeat (go_big_quiet_step (fail))
   refine wpQuiet_nil ?_;refine tT 1 rfl ?_;simp only[aU];repeat (go_big_quiet_step (fail))
   refine wpQuiet_nil ?_;refine ko 3 rfl ?_;simp only[aU];repeat (go_big_quiet_step (fail))
   refine wpQuiet_nil ?_;refine tT 1 rfl ?_;simp only[aU];repeat (go_big_quiet_step (fail))
   refine wpQuiet_nil ?_;refine ko 1 rfl ?_;simp only[aU];repeat (go_big_quiet_step (fail))
   refine wpQuiet_nil ?_;refine tS rfl ?_;intro K hK;have z0:=aO HS.out.1 i;go_wp2;refine hK.out _ _ (Fr.aS (((Fr.refl [g] wr).setCell (by simp) _).drew)) ?_;clear hK K z0;have bH:=aX (o:=i) HS.out.1 (.int .u8 y);obtain⟨dW,bQ⟩:∃dW,dW=wr.setCell ⟨g,i,none⟩ (.int .u8 (y:Nat)):=⟨_,rfl⟩;rw[<-bQ]at bH ⊢;obtain⟨A1,hB⟩:∃A1,A1=A.setIfInBounds i (.int .u8 (y:Nat)):=⟨_,rfl⟩;rw[<-hB]at bH;have z0:=aO bH j;have c2:dW.cell? ⟨g,j,none⟩=some (.int .u8 y):=by rw[cell_of bH,hB,aZ (by omega),<-cell_of HS.out.1];exact d1
   have vW:=au bH hB bQ;clear bH hB bQ d0 d1;refine ko 1 rfl ?_;simp only[aU];repeat (go_big_quiet_step (fail))
   refine wpQuiet_nil ?_;refine tS rfl ?_;intro K hK;go_wp2;refine hK.out _ _ (Fr.aS (((Fr.refl [g] dW).setCell (by simp) _).drew)) ?_;clear hK K z0 c2;refine Dy ?_;have gQ:=aX (o:=j) vW.out.1 (.int .u8 x);obtain⟨w2,bq⟩:∃w2,w2=dW.setCell ⟨g,j,none⟩ (.int .u8 (x:Nat)):=⟨_,rfl⟩;rw[<-bq]at gQ ⊢;have HZ:=ak gQ bq;clear gQ bq;go_wp2;go_roundg k;case measure=>omega
   case rel=>
    obtain⟨hA,cG,EG,hx,hy,hf⟩:=HS.out;obtain⟨bH,hB,bQ⟩:=vW.out;obtain⟨gQ,bq⟩:=HZ.out;refine⟨i+1,j-1,by go_num,by go_num,by omega,by omega,by omega,?_,_,gQ,by rw[qX,hB,qX,cG],λk hk=>?_⟩
    ·rw[bq,bQ];exact hf.trans ((((Fr.refl [g] wr).setCell (by simp) _).setCell (by simp) _).drew)
    ·have cF:∀k,k<n->k<A.size:=λk hk=>(FE.1 (EG k hk)).1
     rw[zad jW h k hk];by_cases h1:k=j
     ·subst h1;rw[iu (by rw[hB,qX];exact cF k hk),if_neg (by omega),if_pos rfl,hx]
     ·rw[aZ (by omega),hB];by_cases h2:k=i
      ·subst h2;rw[iu (cF k hk),if_pos rfl,hy]
      ·rw[aZ (by omega),if_neg h2,if_neg h1];exact EG k hk
  ·have HS:=aF hA cG EG hf;clear hA cG EG hf;go_wp2;refine bodyPost_end (results_none rfl _ _ _) rfl ⟨rfl,HS.out.2.2.2,A,HS.out.1,HS.out.2.1,λk hk=>?_⟩;rw[HS.out.2.2.1 k hk,zdg H0.o1 jW h k hk Oy]
end pk

end Go.Proofs.YtkmpfgpfbmeihaaGreatDoor