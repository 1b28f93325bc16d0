/-
  Texts of this proof, one behind the other: PkEntry, PkMem, PackNil, RevB, PackBack, PackWr0, PackRd0.
-/
import Derived.Test.YtkmpfgpfbmeihaaGreatDoorS16
import Derived.Test.YtkmpfgpfbmeihaaGreatDoorS17
import Derived.Lib.SliceRun
import Derived.Carry
import Derived.Lib.SlBytesConst
set_option maxHeartbeats 16000000
set_option maxRecDepth 100000
set_option linter.unusedVariables false
set_option linter.unusedSimpArgs false
namespace Go.Proofs.YtkmpfgpfbmeihaaGreatDoor.pk
open Go Go.RowKit lib bm
theorem infoRaw:(Tryz.prog.info? 65).map (·.size)=some 7:=by kernel_rfl
theorem qec {fn:Func} {p u:Tmp} (h:fn.results=#[.cell p 65,.tmp u]) (tmps:Array Value) (w:World) (g:Nat) (cs:Array Value) (fr:Nat×Nat)
  (hp:tmps.getD p undef = .pointer (some ⟨g,0,none⟩)) (hg:w.heap[g]?=some (.cells cs 65 fr)) (hs:cs.size=7) :
  (results fn tmps).run Tryz.prog w = .ok (.tuple #[.agg cs,tmps.getD u undef]) w:=by
 rw[results_cell_tmp h];have h1:=run_loadVar_row (P:=Tryz.prog) w g 65 65 cs fr _ hg Tryz.underlying65 rfl (by rw[infoRaw,hs]);simp only[hp,asAddr,Sem.run_pure,qgq,h1]
theorem Rdr.frE {S:List Nat} {w w':World} {r:Nat} {a:Option Addr} {cap at_:Nat} {bs:List UInt8} (h:Rdr w r a cap bs at_) (f:Fr S w w') (hr:r∉S) (hn:bs≠[]→∀x∈blk a,x∉S):Rdr w' r a cap bs at_:=
 ⟨f.blk h.box hr,qhj h.rd f hn,h.le,h.off⟩
theorem zb7 {bs out:List UInt8} {m k:Nat} (h:inf.izlib bs m = .ok (out,k)):k≤bs.length:=by
 unfold inf.izlib at h;split at h
 ·cases h
 ·split at h
  ·cases h
  ·split at h
   ·cases h
   ·split at h
    ·cases h
    ·split at h
     ·simp only[qa6,qa4]at h;omega
     ·cases h
def entV (x:Ent) (da:Option Addr) (dc:Nat):Array Value:=#[.int .i64 (x.kind:Nat),.int .i64 (x.at_:Nat),.int .i64 (x.size:Nat),.int .u32 (x.crc:Nat),.slice da x.data.length dc,.string (str x.base),.int .i64 (x.off:Nat)]
def PEntry (w:World) (r:Nat) (a:Option Addr) (cap:Nat) (bs:List UInt8) (P:Except Nat (Ent×Nat)) (e:Ending) (w':World):Prop:=
 Fr [r] w w'∧((∃x V,P = .error x∧0<x∧x<100∧e = .returned (.tuple #[.agg V,.int .i64 (x:Nat)])∧V.size=7∧V.all (·.oneCell')=true)∨
  ∃x q da,P = .ok (x,q)∧e = .returned (.tuple #[.agg (entV x da x.data.length),.int .i64 0])∧Rdr w' r a cap bs q∧lib.Rd w' da x.data.length x.data∧(∀y∈blk da,w.heap.size≤y∧y<w'.heap.size))
theorem qv3 (r:Nat) (a:Option Addr) (cap:Nat) (bs:List UInt8) (at_:Nat) (w:World) (h:Rdr w r a cap bs at_) (hlen:bs.length≤100000000) :
  Calls Tryz.prog 44 #[.pointer (some ⟨r,0,none⟩)] w (PEntry w r a cap bs (pentry bs at_)):=by
 obtain⟨P,hP⟩:=zex (pentry bs at_);rw[<-hP];unfold pentry at hP;have hrw:=lt_of_block h.box;have c1:w.cell? ⟨r,1,none⟩=some (.int .i64 at_):=by rw[cell_of h.box];rfl
 have halt:bs≠[]→∀x∈blk a,x<w.heap.size:=λhb=>qmj h.rd hb
 have H:=zhd4 h hlen hP halt;have hle:=h.le;clear h hlen hP halt;go_enter Tryz.func44,Tryz.ntmps44;go_upto_region 2 with fail;obtain⟨B,w1,hB,hw1,hb1,f1⟩:∃B w1,B=w.heap.size∧w1=w.alloc (.cells #[.int .i64 0,.int .i64 (at_:Nat),.int .i64 0,.int .u32 0,.slice none 0 0,.string ⟨#[]⟩,.int .i64 0] 65)∧w1.heap[B]?=some (.cells #[.int .i64 0,.int .i64 (at_:Nat),.int .i64 0,.int .u32 0,.slice none 0 0,.string ⟨#[]⟩,.int .i64 0] 65 (0,0))∧Fr [] w w1:=
  ⟨_,_,rfl,rfl,qay w _,(Fr.refl [] w).alloc _⟩
 rw[<-hw1,<-hB];have hBr:r≠B:=by omega
 have rd1:=H.o0.fr f1;have hd:=qy4 r a cap bs at_ w1 rd1 H.o1;have hBa:bs≠[]→∀x∈blk a,x≠B:=λhb x hx=>by have:=H.l3 hb x hx;omega
 have H1:=zhd5 hb1 f1 hd hB hBa;clear hb1 f1 hd hB hw1 rd1 c1 hBa;go_upto_region 3 with (go_at_call 73;refine H1.o2.mono ?_;rintro e w2 ⟨f2,h2⟩;have hb2:=f2.blk H1.o0 (by simp;omega);have c0:=cell_of hb2 0;have c2:=cell_of hb2 2;have z0:=qau hb2 0;have z2:=qau hb2 2;simp only[qag,qac,qaf]at c0 c2;have H2:=zhd2 hb2 f2;clear hb2 f2;rcases h2 with⟨x,hx,k0,k1,rfl⟩|⟨k,s,n,hk,hk8,hs,rfl,rd2⟩)
 ·obtain⟨w3,hw3,hb3,f3⟩:∃w3,w3=(w2.setCell ⟨B,0,none⟩ (.int .i64 0)).setCell ⟨B,2,none⟩ (.int .i64 0)∧w3.heap[B]?=some (.cells #[.int .i64 0,.int .i64 (at_:Nat),.int .i64 0,.int .u32 0,.slice none 0 0,.string ⟨#[]⟩,.int .i64 0] 65 (0,0))∧Fr [r] w w3:=
   ⟨_,rfl,(qax (qax H2.o0 _) _).trans rfl,((((H1.o1.mono (T:=[r]) (by simp)).trans H2.l1).setCell (.inr (by rw[H1.o3];exact qae _)) _).setCell (.inr (by rw[H1.o3];exact qae _)) _)⟩
  rw[<-hw3]
  have HX:=zhd3 hb3 f3 hx
  have d0:((x:Int)!=0)=true:=by simp;omega
  clear hb3 f3 hx hw3 c0 c2 z0 z2
  go_wp2_with (first|(refine wpList_load_row rfl 65 (.tmp 2) rfl B rfl 65 #[.int .i64 0,.int .i64 at_,.int .i64 0,.int .u32 0,.slice none 0 0,.string ⟨#[]⟩,.int .i64 0] (0,0) _ HX.o0 Tryz.underlying65 rfl infoRaw ?_)|(refine wpList_store_row rfl 65 (.tmp 2) (.tmp 25) rfl B #[.int .i64 0,.int .i64 at_,.int .i64 0,.int .u32 0,.slice none 0 0,.string ⟨#[]⟩,.int .i64 0] rfl rfl 65 #[.int .i64 0,.int .i64 at_,.int .i64 0,.int .u32 0,.slice none 0 0,.string ⟨#[]⟩,.int .i64 0] HX.o0 infoRaw rfl (by kernel_rfl) ?_))
  refine bodyPost_ret (qec rfl _ _ B #[.int .i64 0,.int .i64 at_,.int .i64 0,.int .u32 0,.slice none 0 0,.string ⟨#[]⟩,.int .i64 0] (0,0) rfl (setRow_heap _ _ _ _ _ _ HX.o0) rfl) rfl ?_
  exact⟨HX.l1.1.setRow (.inr (by rw[H1.o3];exact qae _)) _,.inl ⟨x,_,by rw[H.o2,HX.out.2.2],k0,k1,rfl,rfl,by kernel_rfl⟩⟩
 ·obtain⟨w3,hw3,hb3,f3,f23⟩:∃w3,w3=(w2.setCell ⟨B,0,none⟩ (.int .i64 (k:Nat))).setCell ⟨B,2,none⟩ (.int .i64 (s:Nat))∧w3.heap[B]?=some (.cells #[.int .i64 (k:Nat),.int .i64 (at_:Nat),.int .i64 (s:Nat),.int .u32 0,.slice none 0 0,.string ⟨#[]⟩,.int .i64 0] 65 (0,0))∧Fr [r] w w3∧Fr [B] w2 w3:=
   ⟨_,rfl,(qax (qax H2.o0 _) _).trans rfl,((((H1.o1.mono (T:=[r]) (by simp)).trans H2.l1).setCell (.inr (by rw[H1.o3];exact qae _)) _).setCell (.inr (by rw[H1.o3];exact qae _)) _),(((Fr.refl [B] w2).setCell (by simp) _).setCell (by simp) _)⟩
  rw[<-hw3]
  have rd3:=rd2.frE f23 (by simp;omega) (λhb x hx hm=>H1.l4 hb x hx (by simpa using hm))
  have hn1:n≤(bs.drop at_).length:=(qqu _ _ _ _ _ hk).2.2.1
  rw[qav]at hn1
  have hn0:=(qqu _ _ _ _ _ hk).1
  obtain⟨p,hp⟩:=zex (at_+n)
  have hP:=H.o2
  rw[hk]at hP
  simp only at hP
  rw[<-hp]at hP rd3
  have hpl:p≤bs.length:=by omega
  have hb4:=hb3
  have c0:=cell_of hb3 0
  have c1:=cell_of hb3 1
  have z5:=qau hb3 5
  have z6:=qau hb3 6
  have c5:=cell_of hb3 5
  have c6:=cell_of hb3 6
  simp only[qag,qac,qaf]at c0 c1 c5 c6
  have hbne:bs≠[]:=λe=>by rw[e]at hn1;simp at hn1;omega
  have H3:=zhd5 hb3 f3 rd3 hP hp
  have HN:=zhd hbne
  clear hb3 hb4 f3 f23 rd3 hP hp hk hw3 hn1 rd2 hbne z0 z2 c2
  go_upto_block 0 with fail
  go_cut [29] from 4 to 67 (λs29 wc=>∃base off q,pbase bs at_ k p = .ok (base,off,q)∧wc.heap[B]?=some (.cells #[.int .i64 (k:Nat),.int .i64 (at_:Nat),.int .i64 (s:Nat),.int .u32 0,.slice none 0 0,.string (str base),.int .i64 (off:Nat)] 65 (0,0))∧Rdr wc r a cap bs q∧Fr [r] w wc)
  case first=>
   by_cases k6:k=6
   ·subst k6
    have hb:=zad r a cap bs p w3 H3.o2 H.o1
    have hbb:∀x,x=pback (bs.drop p)→pbase bs at_ 6 p=match x with
      | .error e=>.error e
      | .ok (v,k)=>if v<1∨at_<v then .error 3 else .ok ([],at_-v,p+k):=by rintro x rfl;rfl
    obtain⟨Q,hQ⟩:=zex (pback (bs.drop p))
    have hbb:=hbb Q hQ
    rw[<-hQ]at hb
    have HQ:=zhd3 hb hbb hQ
    clear hb hbb hQ c0 c1 c5 c6 z5 z6
    go_upto_region 8 with (go_at_call 74;refine HQ.out.1.mono ?_;rintro e w4 ⟨f4,(⟨x,hx,k0,k1,rfl⟩|⟨v,m,hv,hvb,rfl,rd4⟩)⟩)
    ·have hb4:=f4.blk H3.o0 (by simp;omega)
     have HX:=zhd3 hb4 (H3.o1.trans f4) hx
     have d0:((x:Int)!=0)=true:=by simp;omega
     clear hb4 f4 hx
     go_wp2_with (first|(refine wpList_load_row rfl 65 (.tmp 2) rfl B rfl 65 #[.int .i64 ((6:Nat):Int),.int .i64 at_,.int .i64 s,.int .u32 0,.slice none 0 0,.string ⟨#[]⟩,.int .i64 0] (0,0) _ HX.o0 Tryz.underlying65 rfl infoRaw ?_)|(refine wpList_store_row rfl 65 (.tmp 2) (.tmp 38) rfl B #[.int .i64 ((6:Nat):Int),.int .i64 at_,.int .i64 s,.int .u32 0,.slice none 0 0,.string ⟨#[]⟩,.int .i64 0] rfl rfl 65 #[.int .i64 ((6:Nat):Int),.int .i64 at_,.int .i64 s,.int .u32 0,.slice none 0 0,.string ⟨#[]⟩,.int .i64 0] HX.o0 infoRaw rfl (by kernel_rfl) ?_))
     refine bodyPost_ret (qec rfl _ _ B #[.int .i64 ((6:Nat):Int),.int .i64 at_,.int .i64 s,.int .u32 0,.slice none 0 0,.string ⟨#[]⟩,.int .i64 0] (0,0) rfl (setRow_heap _ _ _ _ _ _ HX.o0) rfl) rfl ?_
     exact⟨HX.l1.1.setRow (.inr (by rw[H1.o3];exact qae _)) _,.inl ⟨x,_,by rw[H3.o3,HQ.out.2.1,HX.out.2.2],k0,k1,rfl,rfl,by kernel_rfl⟩⟩
    ·have hb4:=f4.blk H3.o0 (by simp;omega)
     have c1:=cell_of hb4 1
     have c6:=cell_of hb4 6
     have z6:=qau hb4 6
     simp only[qag,qac,qaf]at c1 c6
     have hbq:pbase bs at_ 6 p=if v<1∨at_<v then .error 3 else .ok ([],at_-v,p+m):=by rw[HQ.out.2.1,hv]
     have HX:=zhd4 hb4 (H3.o1.trans f4) hbq rd4
     clear hb4 f4 hv hbq rd4
     by_cases hv0:v=0
     ·subst hv0
      have HV:=zhd (show pbase bs at_ 6 p = .error 3 by rw[HX.out.2.2.1,if_pos (by omega)])
      clear c1 c6 z6
      go_wp2_with (first|(refine wpList_load_row rfl 65 (.tmp 2) rfl B rfl 65 #[.int .i64 ((6:Nat):Int),.int .i64 at_,.int .i64 s,.int .u32 0,.slice none 0 0,.string ⟨#[]⟩,.int .i64 0] (0,0) _ HX.o0 Tryz.underlying65 rfl infoRaw ?_)|(refine wpList_store_row rfl 65 (.tmp 2) (.tmp 48) rfl B #[.int .i64 ((6:Nat):Int),.int .i64 at_,.int .i64 s,.int .u32 0,.slice none 0 0,.string ⟨#[]⟩,.int .i64 0] rfl rfl 65 #[.int .i64 ((6:Nat):Int),.int .i64 at_,.int .i64 s,.int .u32 0,.slice none 0 0,.string ⟨#[]⟩,.int .i64 0] HX.o0 infoRaw rfl (by kernel_rfl) ?_))
      refine bodyPost_ret (qec rfl _ _ B #[.int .i64 ((6:Nat):Int),.int .i64 at_,.int .i64 s,.int .u32 0,.slice none 0 0,.string ⟨#[]⟩,.int .i64 0] (0,0) rfl (setRow_heap _ _ _ _ _ _ HX.o0) rfl) rfl ?_
      exact⟨HX.l1.1.setRow (.inr (by rw[H1.o3];exact qae _)) _,.inl ⟨3,_,by rw[H3.o3,HV.out],by decide,by decide,rfl,rfl,by kernel_rfl⟩⟩
     ·have d0:((v:Int)==0)=false:=by simp;omega
      by_cases hva:at_<v
      ·have HV:=zhd (show pbase bs at_ 6 p = .error 3 by rw[HX.out.2.2.1,if_pos (by omega)])
       clear c6 z6 hv0
       go_wp2_with (first|(refine wpList_load_row rfl 65 (.tmp 2) rfl B rfl 65 #[.int .i64 ((6:Nat):Int),.int .i64 at_,.int .i64 s,.int .u32 0,.slice none 0 0,.string ⟨#[]⟩,.int .i64 0] (0,0) _ HX.o0 Tryz.underlying65 rfl infoRaw ?_)|(refine wpList_store_row rfl 65 (.tmp 2) (.tmp 48) rfl B #[.int .i64 ((6:Nat):Int),.int .i64 at_,.int .i64 s,.int .u32 0,.slice none 0 0,.string ⟨#[]⟩,.int .i64 0] rfl rfl 65 #[.int .i64 ((6:Nat):Int),.int .i64 at_,.int .i64 s,.int .u32 0,.slice none 0 0,.string ⟨#[]⟩,.int .i64 0] HX.o0 infoRaw rfl (by kernel_rfl) ?_))
       refine bodyPost_ret (qec rfl _ _ B #[.int .i64 ((6:Nat):Int),.int .i64 at_,.int .i64 s,.int .u32 0,.slice none 0 0,.string ⟨#[]⟩,.int .i64 0] (0,0) rfl (setRow_heap _ _ _ _ _ _ HX.o0) rfl) rfl ?_
       exact⟨HX.l1.1.setRow (.inr (by rw[H1.o3];exact qae _)) _,.inl ⟨3,_,by rw[H3.o3,HV.out],by decide,by decide,rfl,rfl,by kernel_rfl⟩⟩
      ·have HV:=zhd (show pbase bs at_ 6 p = .ok ([],at_-v,p+m) by rw[HX.out.2.2.1,if_neg (by omega)])
       have d1:decide (at_<v)=false:=by simp;omega
       obtain⟨off,hoff⟩:=zex (at_-v)
       have eoff:(at_:Int)-v=(off:Int):=by omega
       have HO:=zhd hoff
       have hob:off≤100000000:=by have:=H.o1;omega
       have hva2:v≤at_:=by omega
       clear hva hv0 hoff
       go_wp2
       go_meet
       case rel=>exact⟨[],off,p+m,by rw[HV.out,HO.out],(qax HX.o0 _).trans rfl,HX.out.2.2.2.frE ((Fr.refl [B] w4).setCell (by simp) _) (by simp;omega) (λhb x hx hm=>H1.l4 hb x hx (by simpa using hm)),HX.l1.1.setCell (.inr (by rw[H1.o3];exact qae _)) _⟩
   ·have d6:((k:Int)==6)=false:=by simp;omega
    by_cases k7:k=7
    ·subst k7
     by_cases h20:bs.length-p<20
     ·have ht:=qgb r a cap bs p 20 w3 H3.o2 H.o1 (by omega)
      have hbb:pbase bs at_ 7 p = .error 4:=by unfold pbase;rw[if_neg (by decide),if_pos rfl,if_pos h20]
      have HQ:=zhd2 ht hbb
      clear ht hbb c0 c1 c5 c6 z5 z6 h20
      go_upto_region 15 with (go_at_call 43;refine HQ.out.1.mono ?_;rintro e w4 ⟨rfl,f4⟩)
      have hb4:=f4.blk H3.o0 (by simp)
      have HX:=zhd2 hb4 (H3.o1.step f4 (by simp))
      clear hb4 f4
      go_wp2_with (first|(refine wpList_load_row rfl 65 (.tmp 2) rfl B rfl 65 #[.int .i64 ((7:Nat):Int),.int .i64 at_,.int .i64 s,.int .u32 0,.slice none 0 0,.string ⟨#[]⟩,.int .i64 0] (0,0) _ HX.o0 Tryz.underlying65 rfl infoRaw ?_)|(refine wpList_store_row rfl 65 (.tmp 2) (.tmp 63) rfl B #[.int .i64 ((7:Nat):Int),.int .i64 at_,.int .i64 s,.int .u32 0,.slice none 0 0,.string ⟨#[]⟩,.int .i64 0] rfl rfl 65 #[.int .i64 ((7:Nat):Int),.int .i64 at_,.int .i64 s,.int .u32 0,.slice none 0 0,.string ⟨#[]⟩,.int .i64 0] HX.o0 infoRaw rfl (by kernel_rfl) ?_))
      refine bodyPost_ret (qec rfl _ _ B #[.int .i64 ((7:Nat):Int),.int .i64 at_,.int .i64 s,.int .u32 0,.slice none 0 0,.string ⟨#[]⟩,.int .i64 0] (0,0) rfl (setRow_heap _ _ _ _ _ _ HX.o0) rfl) rfl ?_
      exact⟨HX.l1.setRow (.inr (by rw[H1.o3];exact qae _)) _,.inl ⟨4,_,by rw[H3.o3,HQ.out.2],by decide,by decide,rfl,rfl,by kernel_rfl⟩⟩
     ·have ht:=qej r a cap bs p 20 w3 H3.o2 H.o1 (by omega)
      have hbb:pbase bs at_ 7 p = .ok (hexb ((bs.drop p).take 20),0,p+20):=by unfold pbase;rw[if_neg (by decide),if_pos rfl,if_neg h20]
      obtain⟨ap,hap⟩:=zex (cutAt a cap p)
      rw[<-hap]at ht
      have hxl:((bs.drop p).take 20).length=20:=by rw[qaq,qav];omega
      have hm20:=λw' (f:Fr [r] w3 w')=>(qhj H3.o2.rd f (λhb x hx hm=>H3.o2.off hb x hx (by simpa using hm))).mid p 20 (by omega)
      rw[<-hap]at hm20
      obtain⟨bp,hbp⟩:=zex ((bs.drop p).take 20)
      rw[<-hbp]at hbb hxl hm20
      have hhx:=λw' (f:Fr [r] w3 w')=>qps ap (cap-p) bp w' (hm20 w' f) (by omega)
      rw[hxl]at hhx
      have HQ:=zhd3 ht hbb hhx
      clear ht hbb c0 c1 c5 c6 z5 z6 h20 hap hxl hm20 hbp hhx
      go_upto_region 17 with (go_at_call 43;refine HQ.out.1.mono ?_;rintro e w4 ⟨rfl,rd4,f4⟩)
      have hb4:=f4.blk H3.o0 (by simp;omega)
      have HX:=zhd3 hb4 f4 rd4
      clear hb4 f4 rd4
      go_wp2_with (go_at_call 46;refine (HQ.out.2.2 _ HX.l1.1).mono ?_;rintro e w5 ⟨rfl,f5⟩;have hb5:=f5.blk HX.o0 (by simp);have c5:=cell_of hb5 5;have z5:=qau hb5 5;simp only[qag,qac,qaf]at c5;have H5:=zhd2 hb5 f5;clear hb5 f5)
      go_meet
      case rel=>exact⟨hexb bp,0,p+20,HQ.out.2.1,(qax H5.o0 _).trans rfl,(HX.out.2.2.fr H5.l1).frE ((Fr.refl [B] w5).setCell (by simp) _) (by simp;omega) (λhb x hx hm=>H1.l4 hb x hx (by simpa using hm)),((H3.o1.trans HX.l1.1).step H5.l1 (by simp)).setCell (.inr (by rw[H1.o3];exact qae _)) _⟩
    ·have d7:((k:Int)==7)=false:=by simp;omega
     have hbb:pbase bs at_ k p = .ok ([],0,p):=by unfold pbase;rw[if_neg k6,if_neg k7]
     have HQ:=zhd hbb
     clear hbb k6 k7
     go_wp2
     go_meet
     case rel=>exact⟨[],0,p,HQ.out,H3.o0,H3.o2,H3.o1⟩
  case rest=>
   obtain⟨base,off,q,hpb,hb4,rd4,f4⟩:=hcut
   obtain⟨hpq,hql,hbl,hofl⟩:=qtz hpl hpb
   obtain⟨L,hL⟩:=zex bs.length
   have hLb:L≤100000000:=by rw[hL];exact H.o1
   have hcap:=rd4.rd.le
   have hmax:=rd4.rd.max
   unfold maxLen at hmax
   obtain⟨Z,hZ⟩:=zex (inf.izlib (bs.drop q) 65536)
   have hP:=H3.o3
   rw[hpb]at hP
   simp only at hP
   rw[<-hZ]at hP
   have hz:∀w',Fr [] wc w'→Calls Tryz.prog 75 #[.slice (cutAtN a cap q 1) (L-q:Nat) (cap-q),.int .i64 65536] w' (inf.RawGood w' Z):=λw' f=>by
    have:=inf.zao (cutAtN a cap q 1) (cap-q) (bs.drop q) 65536 w' ((rd4.rd.fr f).drop q hql) (by rw[qav];omega) (by decide)
    rw[qav,<-hL,<-hZ]at this
    exact this
   have c0:wc.drew.cell? ⟨r,0,none⟩=some (.slice a L cap):=(show wc.cell? _=_ by rw[cell_of rd4.box,hL];rfl)
   have c1:wc.drew.cell? ⟨r,1,none⟩=some (.int .i64 q):=(show wc.cell? _=_ by rw[cell_of rd4.box];rfl)
   rw[<-hL]at hql hcap hpl hle
   have HB:=zhd7 hb4 rd4 f4 hP hz hL hZ
   clear hb4 rd4 f4 hP hz hpb hZ hL
   go_upto_region 18 with fail
   have s0:∀x,(sup [] wc.drew x).cell? ⟨r,0,none⟩=some (.slice a L cap):=λx=>(qcm [] wc.drew x).cell c0 (by simp)
   have s1:∀x,(sup [] wc.drew x).cell? ⟨r,1,none⟩=some (.int .i64 q):=λx=>(qcm [] wc.drew x).cell c1 (by simp)
   have hsl:=λw'=>lib.qd2 sliceU8 q a L cap (q:Nat) rfl hql hcap w'
   refine qb3 17 [(false,0),(false,1),(false,2),(false,3),(false,4),(false,5),(false,6),(false,7),(false,8),(true,9),(false,10),(false,11),(false,12),(false,13),(false,14),(false,15),(false,16)] [] (by kernel_rfl) (by kernel_rfl) (λ_ _ d _ _ h=>by cases d<;>exact h) ?_
   simp only[qak,qam,qaz,qa0,qad,qaj,qbk]
   refine qb0 9 rfl ?_
   simp only[qah,qan,qad,qaj,qak,qam]
   repeat (go_big_quiet_step (fail))
   refine wpQuiet_nil ?_
   clear s0 s1 hsl c0 c1
   refine qb6 rfl ?_
   intro X hX
   go_wp2_with (go_at_call 75;refine (HB.o4 _ (Fr.drew1 [] wc)).mono ?_;rintro e w5 (⟨x,hx,k0,k1,rfl,f5⟩|⟨out,used,ao,hok,rfl,rdo,nbo,f5⟩))
   ·refine hX.out _ _ f5 ?_
    clear hX X
    refine qb0 7 rfl ?_
    simp only[qah,qan,qad,qaj,qak,qam]
    repeat (go_big_quiet_step (fail))
    refine wpQuiet_nil ?_
    refine qcq ?_
    have f5w:=(Fr.drew1 [] wc).trans f5
    have hb5:=f5w.blk HB.o0 (by simp)
    have HX:=zhd3 hb5 (HB.o2.step f5w (by simp)) hx
    have d0:((x:Int)!=0)=true:=by simp;omega
    clear hb5 f5w f5 hx
    go_wp2_with (first|(refine wpList_load_row rfl 65 (.tmp 2) rfl B rfl 65 #[.int .i64 k,.int .i64 at_,.int .i64 s,.int .u32 0,.slice none 0 0,.string (str base),.int .i64 off] (0,0) _ HX.o0 Tryz.underlying65 rfl infoRaw ?_)|(refine wpList_store_row rfl 65 (.tmp 2) (.tmp 84) rfl B #[.int .i64 k,.int .i64 at_,.int .i64 s,.int .u32 0,.slice none 0 0,.string (str base),.int .i64 off] rfl rfl 65 #[.int .i64 k,.int .i64 at_,.int .i64 s,.int .u32 0,.slice none 0 0,.string (str base),.int .i64 off] HX.o0 infoRaw rfl (by kernel_rfl) ?_))
    refine bodyPost_ret (qec rfl _ _ B #[.int .i64 k,.int .i64 at_,.int .i64 s,.int .u32 0,.slice none 0 0,.string (str base),.int .i64 off] (0,0) rfl (setRow_heap _ _ _ _ _ _ HX.o0) rfl) rfl ?_
    exact⟨HX.l1.1.setRow (.inr (by rw[H1.o3];exact qae _)) _,.inl ⟨x,_,by rw[HB.o3,HX.out.2.2],k0,k1,rfl,rfl,by kernel_rfl⟩⟩
   ·refine hX.out _ _ f5 ?_
    clear hX X
    refine qb0 7 rfl ?_
    simp only[qah,qan,qad,qaj,qak,qam]
    repeat (go_big_quiet_step (fail))
    refine wpQuiet_nil ?_
    refine qcq ?_
    have f5w:=(Fr.drew1 [] wc).trans f5
    have hb5:=f5w.blk HB.o0 (by simp)
    have c2:=cell_of hb5 2
    simp only[qag,qac,qaf]at c2
    have hP2:P=if out.length=s then .ok (⟨k,at_,s,crc.crc ((bs.drop at_).take (q+used-at_)),out,base,off⟩,q+used) else .error 3:=by rw[HB.o3,hok]
    have hus:q+used≤L:=by
     have:=zb7 (by rw[<-HB.l6];exact hok:inf.izlib (bs.drop q) 65536 = .ok (out,used))
     rw[qav,<-HB.o5]at this
     omega
    have holen:=rdo.max
    unfold maxLen at holen
    obtain⟨N,hN⟩:=zex out.length
    rw[<-hN]at hP2 rdo holen ⊢
    have HX:=zhd6 hb5 f5w hP2 rdo nbo hN
    clear hb5 f5w f5 hok hP2 rdo nbo hN
    by_cases hs2:N=s
    ·have hP3:=HX.out.2.2.1
     rw[if_pos hs2]at hP3
     have hd:((N:Int)!=s)=false:=by simp;omega
     have rd5:=HB.o1.fr HX.l1.1
     have c0:w5.cell? ⟨r,0,none⟩=some (.slice a L cap):=by rw[cell_of rd5.box,HB.o5];rfl
     have c1:w5.cell? ⟨r,1,none⟩=some (.int .i64 q):=by rw[cell_of rd5.box];rfl
     have z1:=qau rd5.box 1
     have HP3:=zhd2 hP3 rd5
     clear hP3 rd5 hs2
     go_upto_region 24 with fail
     obtain⟨u,hu⟩:=zex (q+used)
     have eu:(q:Int)+(used:Int)=(u:Int):=by omega
     obtain⟨w6,hw6⟩:∃w6,w6=w5.setCell ⟨r,1,none⟩ (.int .i64 ((q:Int)+(used:Int))):=⟨_,rfl⟩
     rw[<-hw6]
     have f6:Fr [r] w5 w6:=by rw[hw6];exact (Fr.refl [r] w5).setCell (by simp) _
     have hbr:=qax (o:=1) HP3.out.2.box (.int .i64 ((q:Int)+(used:Int)))
     rw[<-hw6,eu]at hbr
     have rd6:Rdr w6 r a cap bs u:=⟨hbr.trans rfl,qhj HP3.out.2.rd f6 (λhb x hx hm=>HP3.out.2.off hb x hx (by simpa using hm)),by rw[<-HB.o5,hu];exact hus,HP3.out.2.off⟩
     have hb6:=f6.blk HX.o0 (by simp;omega)
     have k0:w6.drew.cell? ⟨r,0,none⟩=some (.slice a L cap):=(show w6.cell? _=_ by rw[cell_of rd6.box,HB.o5];rfl)
     have k1:w6.drew.cell? ⟨r,1,none⟩=some (.int .i64 u):=(show w6.cell? _=_ by rw[cell_of rd6.box];rfl)
     have k2:w6.drew.cell? ⟨B,1,none⟩=some (.int .i64 at_):=(show w6.cell? _=_ by rw[cell_of hb6];rfl)
     have s0:∀x,(sup [] w6.drew x).cell? ⟨r,0,none⟩=some (.slice a L cap):=λx=>(qcm [] w6.drew x).cell k0 (by simp)
     have s1:∀x,(sup [] w6.drew x).cell? ⟨r,1,none⟩=some (.int .i64 u):=λx=>(qcm [] w6.drew x).cell k1 (by simp)
     have s2:∀x,(sup [] w6.drew x).cell? ⟨B,1,none⟩=some (.int .i64 at_):=λx=>(qcm [] w6.drew x).cell k2 (by simp)
     obtain⟨m,hm⟩:=zex (u-at_)
     have hmu:at_+m=u:=by have:=H3.l4;omega
     have hsl:=λw'=>lib.run_slice_lh sliceU8 at_ m a L cap (at_:Nat) (u:Nat) rfl (by omega) (by omega) w'
     obtain⟨cr,hcr⟩:=zex (crc.crc ((bs.drop at_).take m))
     have hcc:∀w',Fr [] w6 w'→Calls Tryz.prog 76 #[.slice (cutAt a cap at_) m (cap-at_)] w' λe w''=>e = .returned (.int .u32 cr)∧Fr [] w' w'':=λw' f=>by
      have hmid:=(rd6.rd.fr f).mid at_ m (by have:=HB.o5;omega)
      have:=crc.zfv _ _ _ w' hmid
      rwa [show ((bs.drop at_).take m).length=m by rw[qaq,qav];have:=HB.o5;omega,<-hcr]at this
     have HD:=zhd7 hb6 rd6 f6 hcc hcr hm hu
     clear hb6 rd6 f6 hcc hcr hbr hw6 eu hu hm hus c0 c1 c2 z1 k0 k1 k2
     refine qb3 14 [(false,0),(false,1),(false,2),(false,3),(false,4),(false,5),(false,6),(false,7),(false,8),(false,9),(false,10),(false,11),(false,13),(true,12)] [] (by kernel_rfl) (by kernel_rfl) (λ_ _ d _ _ h=>by cases d<;>exact h) ?_
     simp only[qak,qam,qaz,qa0,qad,qaj,qbk]
     refine qb0 13 rfl ?_
     simp only[qah,qan,qad,qaj,qak,qam]
     repeat (go_big_quiet_step (fail))
     refine wpQuiet_nil ?_
     clear s0 s1 s2 hsl
     refine qb6 rfl ?_
     intro X hX
     go_wp2_with (go_at_call 76;refine (HD.o3 _ (Fr.drew1 [] w6)).mono ?_;rintro e w7 ⟨rfl,f7⟩)
     refine hX.out _ _ f7 ?_
     clear hX X
     refine qcq ?_
     have f7w:=(Fr.drew1 [] w6).trans f7
     have hb7:=f7w.blk HD.o0 (by simp)
     have c3:=cell_of hb7 3
     have c4:=cell_of hb7 4
     have z3:=qau hb7 3
     have z4:=qau hb7 4
     simp only[qag,qac,qaf]at c3 c4
     have H7:=zhd2 hb7 f7w
     clear hb7 f7w f7
     go_upto_region 25 with fail
     obtain⟨w8,hw8⟩:∃w8,w8=(w7.setCell ⟨B,4,none⟩ (.slice ao N N)).setCell ⟨B,3,none⟩ (.int .u32 (cr:Nat)):=⟨_,rfl⟩
     rw[<-hw8]
     have hb8:w8.heap[B]?=some (.cells #[.int .i64 k,.int .i64 at_,.int .i64 s,.int .u32 cr,.slice ao N N,.string (str base),.int .i64 off] 65 (0,0)):=by rw[hw8];exact (qax (qax H7.o0 _) _).trans rfl
     have f8:Fr [B] w7 w8:=by rw[hw8];exact ((Fr.refl [B] w7).setCell (by simp) _).setCell (by simp) _
     have H8:=zhd2 hb8 f8
     clear hb8 f8 hw8 c3 c4 z3 z4
     go_wp2_with (first|(refine wpList_load_row rfl 65 (.tmp 2) rfl B rfl 65 #[.int .i64 k,.int .i64 at_,.int .i64 s,.int .u32 cr,.slice ao N N,.string (str base),.int .i64 off] (0,0) _ H8.o0 Tryz.underlying65 rfl infoRaw ?_)|(refine wpList_store_row rfl 65 (.tmp 2) (.tmp 115) rfl B #[.int .i64 k,.int .i64 at_,.int .i64 s,.int .u32 cr,.slice ao N N,.string (str base),.int .i64 off] rfl rfl 65 #[.int .i64 k,.int .i64 at_,.int .i64 s,.int .u32 cr,.slice ao N N,.string (str base),.int .i64 off] H8.o0 infoRaw rfl (by kernel_rfl) ?_))
     refine bodyPost_ret (qec rfl _ _ B #[.int .i64 k,.int .i64 at_,.int .i64 s,.int .u32 cr,.slice ao N N,.string (str base),.int .i64 off] (0,0) rfl (setRow_heap _ _ _ _ _ _ H8.o0) rfl) rfl ?_
     have fB:Fr [B] w6 (w8.setRow B #[.int .i64 k,.int .i64 at_,.int .i64 s,.int .u32 cr,.slice ao N N,.string (str base),.int .i64 off]):=((H7.l1.mono (T:=[B]) (by simp)).trans H8.l1).setRow (by simp) _
     have f56:Fr [r] w5 w6:=HD.o2
     have hfin:Fr [r] w (w8.setRow B #[.int .i64 k,.int .i64 at_,.int .i64 s,.int .u32 cr,.slice ao N N,.string (str base),.int .i64 off]):=((HB.o2.step HX.l1.1 (by simp)).trans f56).step fB (λy hy=>.inr (by simp at hy;rw[hy,H1.o3];exact qae _))
     have hw5:=HB.o2.size
     have hbl2:∀y∈blk ao,w.heap.size<y∧y<w5.heap.size:=λy hy=>by
      have h1:=HX.out.2.2.2.2.1 y hy
      have h2:=lt_of_block HB.o0
      have h3:=H1.o3
      have h4:wc.drew.heap.size=wc.heap.size:=rfl
      omega
     refine⟨hfin,.inr ⟨⟨k,at_,s,cr,out,base,off⟩,u,ao,?_,?_,HD.o1.frE fB (by simp;omega) (λhb x hx hm=>H1.l4 hb x hx (by simpa using hm)),?_,λy hy=>⟨Nat.le_of_lt (hbl2 y hy).1,qat (hbl2 y hy).2 (qar f56.size fB.size)⟩⟩⟩
     ·rw[HP3.out.1,HD.o4,HD.o5,HD.l6]
     ·show _=Ending.returned (.tuple #[.agg (entV ⟨k,at_,s,cr,out,base,off⟩ ao out.length),.int .i64 0])
      unfold entV
      rw[<-HX.out.2.2.2.2.2]
      rfl
     ·show lib.Rd _ ao out.length out
      rw[<-HX.out.2.2.2.2.2]
      exact (HX.out.2.2.2.1.frS f56 (λx hx hm=>by have:=(hbl2 x hx).1;simp at hm;omega)).frS fB (λx hx hm=>by have:=(hbl2 x hx).1;have h3:=H1.o3;simp at hm;omega)
    ·have hP3:=HX.out.2.2.1
     rw[if_neg hs2]at hP3
     have hd:((N:Int)!=s)=true:=by simp;omega
     have HP3:=zhd hP3
     clear hP3
     go_wp2_with (first|(refine wpList_load_row rfl 65 (.tmp 2) rfl B rfl 65 #[.int .i64 k,.int .i64 at_,.int .i64 s,.int .u32 0,.slice none 0 0,.string (str base),.int .i64 off] (0,0) _ HX.o0 Tryz.underlying65 rfl infoRaw ?_)|(refine wpList_store_row rfl 65 (.tmp 2) (.tmp 91) rfl B #[.int .i64 k,.int .i64 at_,.int .i64 s,.int .u32 0,.slice none 0 0,.string (str base),.int .i64 off] rfl rfl 65 #[.int .i64 k,.int .i64 at_,.int .i64 s,.int .u32 0,.slice none 0 0,.string (str base),.int .i64 off] HX.o0 infoRaw rfl (by kernel_rfl) ?_))
     refine bodyPost_ret (qec rfl _ _ B #[.int .i64 k,.int .i64 at_,.int .i64 s,.int .u32 0,.slice none 0 0,.string (str base),.int .i64 off] (0,0) rfl (setRow_heap _ _ _ _ _ _ HX.o0) rfl) rfl ?_
     exact⟨(HB.o2.step HX.l1.1 (by simp)).setRow (.inr (by rw[H1.o3];exact qae _)) _,.inl ⟨3,_,HP3.out,by decide,by decide,rfl,rfl,by kernel_rfl⟩⟩
abbrev EM:=Ent×Option Addr
def entL (m:EM):List Value:=(entV m.1 m.2 m.1.data.length).toList
def entCells (ms:List EM):List Value:=ms.flatMap entL
theorem qk7 (ms:List EM):(entCells ms).length=ms.length*7:=qln entL 7 (λ_=>rfl) ms
theorem qrg (a b:List EM):entCells (a++b)=entCells a++entCells b:=by unfold entCells;rw[qf9]
theorem zcs (m:EM):∀u∈entL m,u.oneCell'=true:=by intro u hu;simp only[entL,entV,qbh,qcw,or_false]at hu;rcases hu with rfl|rfl|rfl|rfl|rfl|rfl|rfl<;>rfl
theorem zel:SliceTy Tryz.prog 40 65 (.agg #[.int .i64 0,.int .i64 0,.int .i64 0,.int .u32 0,.slice none 0 0,.string ⟨#[]⟩,.int .i64 0]) 7 80:=SliceTy.of Tryz.underlying40 (by kernel_rfl) rfl (by decide)
structure Ents (w:World) (a:Option Addr) (ms:List EM):Prop where
 cs:Cs w a (entCells ms)
 dat:∀m∈ms,lib.Rd w m.2 m.1.data.length m.1.data
theorem Ents.fr {w w':World} {a:Option Addr} {ms:List EM} (h:Ents w a ms) (f:Fr [] w w'):Ents w' a ms:=⟨h.cs.fr f (by simp),λm hm=>(h.dat m hm).fr f⟩
theorem qzz (ao:Option Addr) (len cap:Nat) (w:World) (hle:len≤cap) (hmax:cap≤maxLen) :
  Calls Tryz.prog 45 #[.slice ao len cap] w λe w'=>e = .returned (.slice ao len len)∧w'=w:=by
 go_enter Tryz.func45,Tryz.ntmps45;go_wp2;all_goals go_ret
 all_goals exact⟨by first|rfl|simp,rfl⟩
structure EWr (w wr:World) (R:Nat) (a:Option Addr) (c:Nat) (ms:List EM):Prop where
 own:wr.ownsRow 0 65 7 (.slice a ms.length c) ms.length (entCells ms)
 fr:Fr [] w wr
 new:∀x∈blk a,w.heap.size≤x∧x≠R
 dat:∀m∈ms,lib.Rd wr m.2 m.1.data.length m.1.data∧∀y∈blk m.2,w.heap.size≤y∧y<wr.heap.size∧y∉blk a∧y≠R
theorem EWr.start (w w':World) (R:Nat) (f:Fr [] w w'):EWr w w' R none 0 []:=⟨qch _ _ _ _,f,by simp[blk],by simp⟩
theorem EWr.more {w wr w1 w2:World} {R:Nat} {a a2:Option Addr} {c c2:Nat} {ms:List EM} {m:EM} (h:EWr w wr R a c ms) (hR:w.heap.size≤R) (hRw:R<wr.heap.size) (f:Fr [R] wr w1)
  (hd:lib.Rd w1 m.2 m.1.data.length m.1.data) (hn:∀y∈blk m.2,wr.heap.size≤y∧y<w1.heap.size)
  (A:Appended w1 w2 65 7 (blk a) a2 (ms.length+1) c2 (entCells ms++entL m)):EWr w w2 R a2 c2 (ms++[m]):=by
 have f0:Fr [] w w1:=h.fr.step f (λy hy=>.inr (by simp at hy;omega));have f2:Fr [] w w2:=f0.step A.fr (λy hy=>.inr (h.new y hy).1);have hs:=f.size;have hs0:=h.fr.size;have hin:∀y∈blk a,y<wr.heap.size:=λy hy=>qdu h.own (qdw hy)
 have key:∀m':EM,lib.Rd w1 m'.2 m'.1.data.length m'.1.data→(∀y∈blk m'.2,w.heap.size≤y∧y<w1.heap.size∧y∉blk a∧y≠R)→lib.Rd w2 m'.2 m'.1.data.length m'.1.data∧∀y∈blk m'.2,w.heap.size≤y∧y<w2.heap.size∧y∉blk a2∧y≠R:=λm' r k=>
  ⟨r.frS A.fr (λx hx=>(k x hx).2.2.1),λy hy=>⟨(k y hy).1,qat (k y hy).2.1 A.fr.size,λhm=>by
   rcases A.at_ y hm with q|q
   ·exact (k y hy).2.2.1 q
   ·have:=(k y hy).2.1;omega,(k y hy).2.2.2⟩⟩
 refine⟨?_,f2,λy hy=>?_,λm' hm'=>?_⟩
 ·rw[qrg,qab];have:entCells [m]=entL m:=by simp[entCells]
  rw[this];exact A.own
 ·rcases A.at_ y hy with q|q
  ·exact h.new y q
  ·omega
 ·rcases qbu.1 hm' with q|q
  ·obtain⟨r,k⟩:=h.dat m' q;exact key m' (qhj r f (λ_ x hx hm=>(k x hx).2.2.2 (by simpa using hm))) (λy hy=>⟨(k y hy).1,by have:=(k y hy).2.1;omega,(k y hy).2.2⟩)
  ·obtain rfl:m'=m:=by simpa using q
   exact key m' hd (λy hy=>⟨by have:=(hn y hy).1;omega,(hn y hy).2,λhm=>by have:=hin y hm;have:=(hn y hy).1;omega,by have:=(hn y hy).1;omega⟩)
theorem qzx (w:World):Calls Tryz.prog 60 #[.slice none 0 0] w λe w'=>e = .returned (.slice none 0 0)∧w'=w:=by
 have qT:∀(w:World) (a:Option Addr) (n c n' c':Nat),(binOp .eql 27 (.slice a n c) (.slice none n' c')).run Tryz.prog w = .ok (.bool a.isNone) w:=λw a n c n' c'=>Lib.run_eql_slice_nil w _ _ a n c n' c' Tryz.underlying27
 go_enter Tryz.func60,Tryz.ntmps60;go_wp2;go_ret;exact⟨rfl,rfl⟩
theorem qyq (v:Value) (w:World):Calls Tryz.prog 64 #[.slice none 0 0,v] w λe w'=>e = .returned (.int .i64 (-1))∧w'=w:=by
 go_enter Tryz.func64,Tryz.ntmps64;go_wp2;go_loopg [8] 0 (λk s8 wr=>s8 = .int .i64 0∧wr=w);case atStart=>exact⟨rfl,rfl⟩
 case round=>
 obtain⟨rfl,rfl⟩:=hrel;go_wp2;go_ret;exact⟨rfl,rfl⟩
theorem qom (v:Value) (w:World):Calls Tryz.prog 32 #[.slice none 0 0,v] w λe w'=>e = .returned (.slice none 0 0)∧w'=w:=by go_enter Tryz.func32,Tryz.ntmps32;go_wp2_with (go_at_call 64;refine (qyq _ _).mono ?_;rintro e w2 ⟨rfl,hw⟩;obtain rfl:=hw.symm);go_ret;exact⟨rfl,rfl⟩
theorem quu (w:World):Calls Tryz.prog 42 #[.slice none 0 0] w λe w'=>e = .returned (.slice none 0 0)∧w'=w:=by go_enter Tryz.func42,Tryz.ntmps42;go_wp2;go_ret;exact⟨rfl,rfl⟩
theorem insert_nil (v:Value) (w:World):Calls Tryz.prog 107 #[.slice none 0 0,.int .i64 0,.int .i64 0,v] w λe w'=>e = .returned (.tuple #[])∧w'=w:=by
 go_enter Tryz.func107,Tryz.ntmps107;go_wp2;go_loopg [8] 0 (λk s8 wr=>s8 = .int .i64 1∧wr=w);case atStart=>exact⟨rfl,rfl⟩
 case round=>
 obtain⟨rfl,rfl⟩:=hrel;go_wp2;exact bodyPost_end (results_none rfl _ _ _) rfl ⟨rfl,rfl⟩
theorem qvc (v:Value) (w:World):Calls Tryz.prog 70 #[.slice none 0 0,.int .i64 0,v] w λe w'=>e = .returned (.tuple #[])∧w'=w:=by
 go_enter Tryz.func70,Tryz.ntmps70;go_wp2;go_loopg [7,8] 0 (λk s7 s8 wr=>s7 = .int .i64 0∧s8 = .int .i64 20∧wr=w);case atStart=>exact⟨rfl,rfl,rfl⟩
 case round=>
 obtain⟨rfl,rfl,rfl⟩:=hrel;go_wp2_with (go_at_call 107;refine (insert_nil _ _).mono ?_;rintro e w2 ⟨rfl,hw⟩;obtain rfl:=hw.symm);go_loopg [6] 0 (λk s6 wr2=>s6 = .int .i64 20∧wr2=wr);case atStart=>exact⟨rfl,rfl⟩
 case round=>
 obtain⟨rfl,rfl⟩:=hrel;go_wp2;exact bodyPost_end (results_none rfl _ _ _) rfl ⟨rfl,rfl⟩
theorem qtt (v:Value) (w:World):Calls Tryz.prog 38 #[.slice none 0 0,v] w λe w'=>e = .returned (.tuple #[])∧w'=w:=by go_enter Tryz.func38,Tryz.ntmps38;go_wp2_with (go_at_call 70;refine (qvc _ _).mono ?_;rintro e w2 ⟨rfl,hw⟩;obtain rfl:=hw.symm);exact bodyPost_end (results_none rfl _ _ _) rfl ⟨rfl,rfl⟩
theorem qqo (w:World):Calls Tryz.prog 31 #[.slice none 0 0] w λe w'=>e = .returned (.slice none 0 0)∧w'=w:=by
 go_enter Tryz.func31,Tryz.ntmps31;go_wp2_with (first
  | (go_at_call 60;refine (qzx _).mono ?_;rintro e w2 ⟨rfl,hw⟩;obtain rfl:=hw.symm)
  | (go_at_call 32;refine (qom _ _).mono ?_;rintro e w2 ⟨rfl,hw⟩;obtain rfl:=hw.symm))
 go_ret;exact⟨rfl,rfl⟩
theorem qxx (w:World):Calls Tryz.prog 17 #[.slice none 0 0] w λe w'=>e = .returned (.slice none 0 0)∧Fr [] w w':=by
 have hmm:=λw'=>run_makeMap (P:=Tryz.prog) 75 w'
 go_enter Tryz.func17,Tryz.ntmps17;go_wp2_with (first
  | (go_at_call 38;refine (qtt _ _).mono ?_;rintro e w2 ⟨rfl,hw⟩;obtain rfl:=hw.symm)
  | (go_at_call 42;refine (quu _).mono ?_;rintro e w2 ⟨rfl,hw⟩;obtain rfl:=hw.symm))
 go_loopg [5,11] 0 (λk s5 s11 wr=>s5 = .slice none 0 0∧s11 = .int .i64 0∧Fr [] w wr);case atStart=>exact⟨rfl,rfl,((Fr.refl [] w).alloc _).alloc _⟩
 case round=>
 obtain⟨rfl,rfl,hf⟩:=hrel;clear hmm;go_wp2_with (first
  | (go_at_call 38;refine (qtt _ _).mono ?_;rintro e w2 ⟨rfl,hw⟩;obtain rfl:=hw.symm)
  | (go_at_call 42;refine (quu _).mono ?_;rintro e w2 ⟨rfl,hw⟩;obtain rfl:=hw.symm))
 go_ret;exact⟨rfl,hf⟩
def begin12:List UInt8:=[80,65,67,75,0,0,0,2,0,0,0,0]
end Go.Proofs.YtkmpfgpfbmeihaaGreatDoor.pk
namespace Go.Proofs.YtkmpfgpfbmeihaaGreatDoor.pk
open Go Go.RowKit lib
def rvs (l:List UInt8) (n i k:Nat):UInt8:=if k<i∨n≤k+i then l[n-1-k]?.getD 0 else l[k]?.getD 0
theorem zbc {l:List UInt8} {n i j:Nat} (h:i+j+1=n) (hij:i<j) (k:Nat) (hk:k<n):rvs l n (i+1) k=if k=i then rvs l n i j else if k=j then rvs l n i i else rvs l n i k:=by
 unfold rvs;by_cases h1:k=i
 ·subst h1;rw[if_pos (by omega),if_pos rfl,if_neg (by omega),show n-1-k=j by omega]
 ·by_cases h2:k=j
  ·subst h2;rw[if_pos (by omega),if_neg h1,if_pos rfl,if_neg (by omega),show n-1-k=i by omega]
  ·rw[if_neg h1,if_neg h2];by_cases h3:k<i∨n≤k+i
   ·rw[if_pos (by omega),if_pos h3]
   ·rw[if_neg (by omega),if_neg h3]
theorem zep {l:List UInt8} {n i j:Nat} (hl:l.length=n) (h:i+j+1=n) (hij:¬i<j) (k:Nat) (hk:k<n) (h1:i≤j+1):rvs l n i k=l.reverse[k]?.getD 0:=by
 rw[List.getElem?_reverse (by omega),hl];unfold rvs;by_cases h3:k<i∨n≤k+i
 ·rw[if_pos h3]
 ·rw[if_neg h3,show n-1-k=k by omega]
theorem zet (g n cap:Nat) (A0:Array Value) (l:List UInt8) (w:World) (hA:w.heap[g]?=some (.cells A0 5 (0,0))) (hl:l.length=n) (h1:1≤n) (hn:n≤100000000) (hnc:n≤cap) (hc:∀k,k<n→A0[k]?=some (.int .u8 ((l[k]?.getD 0).toNat:Nat))) :
  Calls Tryz.prog 28 #[.slice (some ⟨g,0,none⟩) n cap] w λe w'=>e = .returned (.tuple #[])∧Fr [g] w w'∧∃A',w'.heap[g]?=some (.cells A' 5 (0,0))∧A'.size=A0.size∧∀k,k<n→A'[k]?=some (.int .u8 ((l.reverse[k]?.getD 0).toNat:Nat)):=by
 have H0:=zhd3 hA hl hc;clear hA hl hc;obtain⟨N,hN⟩:∃N:Int,N=(n:Int)-1:=⟨_,rfl⟩;go_enter Tryz.func28,Tryz.ntmps28;go_wp2;go_loopg [2,3] n (λk s2 s3 wr=>∃i j:Nat,s2 = .int .i64 (i:Nat)∧s3 = .int .i64 (j:Nat)∧i+j+1=n∧i≤j+1∧i+k=n∧Fr [g] w wr∧∃A',wr.heap[g]?=some (.cells A' 5 (0,0))∧A'.size=A0.size∧∀k,k<n→A'[k]?=some (.int .u8 ((rvs l n i k).toNat:Nat)));case atStart=>exact⟨0,n-1,rfl,by go_num,by omega,by omega,by omega,Fr.refl _ _,A0,H0.o0,rfl,λk hk=>by rw[H0.l2 k hk];unfold rvs;rw[if_neg (by omega)]⟩
 case round=>
  obtain⟨i,j,rfl,rfl,hij,hi1,hik,hf,A,hA,hAs,hAc⟩:=hrel;by_cases h:i<j
  ·obtain⟨k,rfl⟩:∃k,gk=k+1:=⟨gk-1,by omega⟩;have d0:=(cell_of hA i).trans (hAc i (by omega));have d1:=(cell_of hA j).trans (hAc j (by omega));obtain⟨x,hx⟩:=zex ((rvs l n i i).toNat);obtain⟨y,hy⟩:=zex ((rvs l n i j).toNat);rw[<-hx]at d0;rw[<-hy]at d1;have hxb:x<256:=by rw[hx];exact qbc _
   have hyb:y<256:=by rw[hy];exact qbc _
   have HS:=zhd6 hA hAs hAc hx hy hf;clear hA hAs hAc hx hy hf;go_upto_region 3 with fail;refine qf3 [(0,0),(0,1),(0,2),(0,3),(0,4),(0,5),(0,6),(1,7),(0,8),(0,9),(0,10),(1,11),(0,12),(2,13),(0,14),(2,15)] [g] [13,15] (by kernel_rfl) (by kernel_rfl) (λ_ _ d _ _ h=>by cases d<;>exact h) ?_;simp only[qak,qam,qaz,qa0];refine qdc 7 rfl ?_;simp only[qah,qan,qad,qaj,qak,qam];repeat (go_big_quiet_step (fail))
   refine wpQuiet_nil ?_;refine qd3 1 rfl ?_;simp only[qah,qan,qad,qaj,qak,qam];repeat (go_big_quiet_step (fail))
   refine wpQuiet_nil ?_;refine qdc 3 rfl ?_;simp only[qah,qan,qad,qaj,qak,qam];repeat (go_big_quiet_step (fail))
   refine wpQuiet_nil ?_;refine qd3 1 rfl ?_;simp only[qah,qan,qad,qaj,qak,qam];repeat (go_big_quiet_step (fail))
   refine wpQuiet_nil ?_;refine qdc 1 rfl ?_;simp only[qah,qan,qad,qaj,qak,qam];repeat (go_big_quiet_step (fail))
   refine wpQuiet_nil ?_;refine qff rfl ?_;intro K hK;have z0:=qau HS.out.1 i;go_wp2;refine hK.out _ _ (Fr.from_drew (((Fr.refl [g] wr).setCell (by simp) _).drew)) ?_;clear hK K z0;have hA1:=qax (o:=i) HS.out.1 (.int .u8 y);obtain⟨ws1,hws1⟩:∃ws1,ws1=wr.setCell ⟨g,i,none⟩ (.int .u8 (y:Nat)):=⟨_,rfl⟩;rw[<-hws1]at hA1 ⊢;obtain⟨A1,hB⟩:∃A1,A1=A.setIfInBounds i (.int .u8 (y:Nat)):=⟨_,rfl⟩;rw[<-hB]at hA1;have z0:=qau hA1 j;have c2:ws1.cell? ⟨g,j,none⟩=some (.int .u8 y):=by rw[cell_of hA1,hB,qaa (by omega),<-cell_of HS.out.1];exact d1
   have HSy:=zhd3 hA1 hB hws1;clear hA1 hB hws1 d0 d1;refine qdc 1 rfl ?_;simp only[qah,qan,qad,qaj,qak,qam];repeat (go_big_quiet_step (fail))
   refine wpQuiet_nil ?_;refine qff rfl ?_;intro K hK;go_wp2;refine hK.out _ _ (Fr.from_drew (((Fr.refl [g] ws1).setCell (by simp) _).drew)) ?_;clear hK K z0 c2;refine qjn ?_;have hA2:=qax (o:=j) HSy.out.1 (.int .u8 x);obtain⟨w2,hw2⟩:∃w2,w2=ws1.setCell ⟨g,j,none⟩ (.int .u8 (x:Nat)):=⟨_,rfl⟩;rw[<-hw2]at hA2 ⊢;have HZ:=zhd2 hA2 hw2;clear hA2 hw2;go_wp2;go_roundg k;case measure=>omega
   case rel=>
    obtain⟨hA,hAs,hAc,hx,hy,hf⟩:=HS.out;obtain⟨hA1,hB,hws1⟩:=HSy.out;obtain⟨hA2,hw2⟩:=HZ.out;refine⟨i+1,j-1,by go_num,by go_num,by omega,by omega,by omega,?_,_,hA2,by rw[qbf,hB,qbf,hAs],λk hk=>?_⟩
    ·rw[hw2,hws1];exact hf.trans ((((Fr.refl [g] wr).setCell (by simp) _).setCell (by simp) _).drew)
    ·have hsz:∀k,k<n→k<A.size:=λk hk=>(qd0.1 (hAc k hk)).1
     rw[zbc hij h k hk];by_cases h1:k=j
     ·subst h1;rw[qal (by rw[hB,qbf];exact hsz k hk),if_neg (by omega),if_pos rfl,hx]
     ·rw[qaa (by omega),hB];by_cases h2:k=i
      ·subst h2;rw[qal (hsz k hk),if_pos rfl,hy]
      ·rw[qaa (by omega),if_neg h2,if_neg h1];exact hAc k hk
  ·have HS:=zhd4 hA hAs hAc hf;clear hA hAs hAc hf;go_wp2;refine bodyPost_end (results_none rfl _ _ _) rfl ⟨rfl,HS.out.2.2.2,A,HS.out.1,HS.out.2.1,λk hk=>?_⟩;rw[HS.out.2.2.1 k hk,zep H0.o1 hij h k hk hi1]
open bm
theorem qrn (ao:Option Addr) (len cap:Nat) (w:World) (hle:len≤cap) (hmax:cap≤maxLen) :
  Calls Tryz.prog 29 #[.slice ao len cap] w λe w'=>e = .returned (.slice ao len len)∧w'=w:=by
 go_enter Tryz.func29,Tryz.ntmps29;go_wp2;all_goals go_ret
 all_goals exact⟨by first|rfl|simp,rfl⟩
theorem zc8 {f m:Nat} (h:0<m) (hf:m≤f):bkF f m=UInt8.ofNat ((m-1)%128+128)::bkF f ((m-1)/128):=by
 cases f with
 | zero=>omega
 | succ f=>rw[bkF,if_neg (by omega),zc9 (f:=f) (g:=f+1) (by omega) (by omega)]
theorem zc7 (f:Nat):bkF f 0=[]:=by cases f<;>simp[bkF]
theorem qy8 {l:List UInt8} {C:Array Value} {k:Nat} (hk:k<l.length) (h:C.toList.take l.length=l.map bv):C[k]?=some (.int .u8 ((l[k]?.getD 0).toNat:Nat)):=by have h1:=congrArg (λ(x:List Value)=>x[k]?) h;simp only[qbs,if_pos hk,qbl]at h1;rw[qai hk]at h1;simp only[qfr,bv]at h1;rw[qai hk,qi3,<-h1];simp
theorem ze2 (w:World) (v:Value):(w.alloc (.cells #[v] 5)).ownsRow 0 5 1 (.slice (some ⟨w.heap.size,0,none⟩) 1 1) 1 [v]:=
 ⟨rfl,.inr ⟨w.heap.size,1,#[v],rfl,qa5 _,qay _ _,qae _,by decide,rfl,rfl⟩⟩
theorem zda (n:Nat) (w:World) (hn:n≤9007199254740992):Calls Tryz.prog 9 #[.int .i64 n] w (NewBytes w (bk n).reverse):=by
 obtain⟨bs,hbs⟩:=zex (bk n);have hbl:bs.length≤10:=by rw[hbs];have:=zfy (k:=9) (f:=n) (m:=n/128) (by omega);unfold bk;simp only[qao];omega
 have h7:=low7 n;obtain⟨t0,ht0⟩:∃t,t=n%128:=⟨_,rfl⟩;have ht1:t0≤127:=by omega
 rw[<-ht0]at h7;obtain⟨x0,hx0⟩:∃x,x=UInt8.ofNat t0:=⟨_,rfl⟩;have hb0:bs=[x0]++bkF n (n/128):=by rw[hbs,hx0,ht0];rfl
 have hv0:[bv x0]=[.int .u8 (t0:Int)]:=by unfold bv;rw[hx0,qd1 (by omega)]
 have ow0:=ze2 w (.int .u8 (t0:Int));rw[<-hbs];have HB:=zhd4 hb0 hbl hv0 ow0;clear hb0 hbl hx0 hbs ht0 hv0 ow0;go_enter Tryz.func9,Tryz.ntmps9;go_upto_region 2 with (refine qd8 (n:Int) rfl _ _ _ rfl (n:Int) 0 rfl rfl (by split<;>omega) ?_);go_upto_block 0 with fail;clear h7;go_cut [3] from 14 to 25 (λs3 wz=>∃a cap,s3 = .slice a bs.length cap∧Wr w wz a cap bs)
 case first=>
  go_wp2;go_loopg [0,3] n (λk s0 s3 wr=>∃m a cap out,s0 = .int .i64 (m:Nat)∧s3 = .slice a out.length cap∧m≤k∧m≤n∧Wr w wr a cap out∧bs=out++bkF n m);case atStart=>exact⟨n/128,some ⟨w.heap.size,0,none⟩,1,[x0],by go_num,rfl,by omega,by omega,⟨by simp only[qao,qbi,qak,qam,HB.o2];exact HB.l3,(Fr.refl _ _).alloc _,by simp[blk]⟩,HB.o0⟩
  case round=>
   obtain⟨m,a,cap,out,rfl,rfl,hk1,hns,h,hall⟩:=hrel;have H:=zhd2 h hall;have hol:out.length≤10:=by have:=congrArg List.length hall;rw[qab]at this;have:=HB.o1;omega
   clear h hall;by_cases h0:0<m
   ·obtain⟨p,rfl⟩:∃p,m=p+1:=⟨m-1,by omega⟩;have h7:=low7 p;obtain⟨t,ht⟩:=zex (p%128);have ht1:t≤127:=by omega
    rw[<-ht]at h7;have ho:=qxz t ht1;obtain⟨x,hx⟩:=zex (UInt8.ofNat (t+128));rw[<-hx]at ho;obtain⟨S,hS⟩:=zex (blk a);have HX:=zhd3 hx hS ht;have f0:Fr [] wr (wr.alloc (.cells #[.int .u8 (x.toNat:Nat)] 5)):=(Fr.refl [] wr).alloc _;have ownA:=qa7 H.o0.own f0 (by simp);have cA:Cs (wr.alloc (.cells #[.int .u8 (x.toNat:Nat)] 5)) (some ⟨wr.heap.size,0,none⟩) [bv x]:=qdp _ _ _ 5 (qay wr _);have HA:=zhd3 ownA cA f0;clear ownA cA f0 hx hS ht;go_wp2_with (refine qba sliceU8 rfl _ _ rfl (.slice a out.length cap) out.length (out.map bv) S rfl (by rw[qby,HX.o1]) HA.o0 (some ⟨wr.heap.size,0,none⟩) 1 1 [bv x] rfl (by decide) (by simp) HA.o1 (by rfl) (qc0 [x]) (by omega) (by unfold maxLen;omega) ?_;intro a2 c2 w2 A1;have HA1:=zhd A1;clear A1);go_roundg (p/128);case measure=>omega
    case rel=>have A1:=HA1.out;rw[HX.o1]at A1;refine⟨p/128,a2,c2,out++[x],by go_num,by rw[qab];rfl,qae _,by omega,H.o0.step HA.l2 A1,?_⟩;rw[H.l1,zc8 h0 hns,qgz,<-HX.l2,HX.o0,qas];rfl
   ·go_wp2;go_meet;obtain rfl:m=0:=by omega
    have he:bs=out:=by rw[H.l1,zc7,qbr]
    exact⟨a,cap,by rw[he],by rw[he];exact H.o0⟩
 case rest=>
 obtain⟨a,cap,rfl,h⟩:=hcut;have hb1:1≤bs.length:=by rw[HB.o0];simp
 have hb10:=HB.o1;obtain⟨o1,o2⟩:=h.own;have o3:=o2.resolve_left (λhh=>by omega);obtain⟨g,cp,cur,e1,e2,e3,e4,e5,e6,e7⟩:=o3;simp only[qbp]at e1;obtain⟨rfl,_,rfl⟩:=e1;have hrv:=zet g bs.length cap cur bs wc e3 rfl hb1 (by omega) e4 (λk hk=>qy8 hk (by rw[<-e7,qce]));obtain⟨N,hN⟩:=zex bs.length;rw[<-hN]at hrv hb1 hb10 e4 ⊢;have H:=zhd5 h.fr (h.new g (by simp[blk])) hN hrv (lt_of_block e3);clear h o1 o2 e2 e3 e6 e7 hrv hN;go_wp2_with (first
  | (go_at_call 28;refine H.out.2.2.2.1.mono ?_;rintro e w1 ⟨rfl,f1,A',q1,q2,q3⟩;have H1:=zhd3 f1 q1 q3;clear f1 q1 q2 q3)
  | (go_at_call 29;refine (qrn _ N cap _ e4 e5).mono ?_;rintro e w2 ⟨rfl,hw⟩;obtain rfl:=hw.symm))
 go_ret;have hf:Fr [] w w1:=H.o0.step H1.o0 (λy hy=>.inr (by simp only[qa2]at hy;rw[hy];exact H.l1.1));have hl:bs.reverse.length=N:=by rw[List.length_reverse,H.out.2.2.1]
 refine⟨some ⟨g,0,none⟩,by rw[hl];rfl,⟨.inr ⟨g,0,rfl,λj u hj=>?_⟩,by rw[hl];exact qae _,by rw[hl];omega,λe=>by cases e⟩,λy hy=>?_,hf⟩
 ·rw[qbl]at hj;have hjl:j<bs.reverse.length:=by
   rcases qb8 j bs.reverse.length with h|h
   ·exact h
   ·rw[qbo h]at hj;cases hj
  have:=H1.l2 j (by omega);rw[qbg,cell_of H1.o1,this];rw[qai hjl]at hj ⊢;exact hj
 ·simp only[blk,qa2]at hy;rw[hy];exact⟨H.l1.1,lt_of_block H1.o1⟩
theorem zdq {w:World} {xs:List Value} (n:Nat) (hn:xs.length=n) (hm:n≤1000):(w.alloc (.cells xs.toArray 5)).ownsRow 0 5 1 (.slice (some ⟨w.heap.size,0,none⟩) n n) n xs:=
 ⟨by omega,.inr ⟨w.heap.size,n,xs.toArray,rfl,qa5 _,qay _ _,qae _,by unfold maxLen;omega,by simp[hn],by rw[qce,<-hn];simp⟩⟩
theorem qwo (w:World):Calls Tryz.prog 15 #[.slice none 0 0,.slice none 0 0] w (NewBytes w (begin12++sha.sha1 begin12)):=by
 have hmm:=λw'=>run_makeMap (P:=Tryz.prog) 75 w'
 have hcv:∀w':World,(convert 23 23 (.slice (some ⟨w'.heap.size,0,none⟩) 8 8)).run Tryz.prog (w'.alloc (.cells #[.int .u8 80,.int .u8 65,.int .u8 67,.int .u8 75,.int .u8 0,.int .u8 0,.int .u8 0,.int .u8 2] 5)) = .ok (.slice (some ⟨w'.heap.size,0,none⟩) 8 8) (w'.alloc (.cells #[.int .u8 80,.int .u8 65,.int .u8 67,.int .u8 75,.int .u8 0,.int .u8 0,.int .u8 0,.int .u8 2] 5 (8,9))):=λw'=>Lib.run_convert_bytes_const (P:=Tryz.prog) w' 23 5 #[.int .u8 80,.int .u8 65,.int .u8 67,.int .u8 75,.int .u8 0,.int .u8 0,.int .u8 0,.int .u8 2] 8 8 Tryz.underlying23 Tryz.underlying5
 go_enter Tryz.func15,Tryz.ntmps15;go_upto_region 3 with (first
  | (go_at_call 31;refine (qqo _).mono ?_;rintro e w1 ⟨rfl,hw⟩;obtain rfl:=hw.symm)
  | (go_at_call 17;refine (qxx _).mono ?_;rintro e w1 ⟨rfl,f1⟩))
 obtain⟨P,w2,hP,hw2,f2,q2⟩:∃P w2,P=w1.heap.size∧w2=w1.alloc (.cells #[.slice none 0 0,.slice none 0 0,.slice none 0 0,.slice none 0 0] 74)∧Fr [] w w2∧w2.heap[P]?=some (.cells #[.slice none 0 0,.slice none 0 0,.slice none 0 0,.slice none 0 0] 74 (0,0)):=⟨_,_,rfl,rfl,f1.alloc _,qay w1 _⟩;have hPw:w.heap.size≤P:=by rw[hP];exact f1.size
 have hP2:P<w2.heap.size:=lt_of_block q2;rw[<-hw2,<-hP];clear hw2 hP f1;obtain⟨B,hB⟩:=zex w2.heap.size;have c8:Cs ((w2.alloc (.cells #[.int .u8 80,.int .u8 65,.int .u8 67,.int .u8 75,.int .u8 0,.int .u8 0,.int .u8 0,.int .u8 2] 5 (8,9))).alloc (.cells #[.int .u8 0,.int .u8 0,.int .u8 0,.int .u8 0] 5)) (some ⟨w2.heap.size,0,none⟩) [.int .u8 80,.int .u8 65,.int .u8 67,.int .u8 75,.int .u8 0,.int .u8 0,.int .u8 0,.int .u8 2]:=by have:=qcx (.cells #[.int .u8 0,.int .u8 0,.int .u8 0,.int .u8 0] 5) (qay w2 (.cells #[.int .u8 80,.int .u8 65,.int .u8 67,.int .u8 75,.int .u8 0,.int .u8 0,.int .u8 0,.int .u8 2] 5 (8,9)));exact .inr ⟨w2.heap.size,0,rfl,λj u hj=>by rw[cell_of this];simpa using hj⟩
 have c4:Cs ((w2.alloc (.cells #[.int .u8 80,.int .u8 65,.int .u8 67,.int .u8 75,.int .u8 0,.int .u8 0,.int .u8 0,.int .u8 2] 5 (8,9))).alloc (.cells #[.int .u8 0,.int .u8 0,.int .u8 0,.int .u8 0] 5)) (some ⟨w2.heap.size+1,0,none⟩) [.int .u8 0,.int .u8 0,.int .u8 0,.int .u8 0]:=by have:=qay (w2.alloc (.cells #[.int .u8 80,.int .u8 65,.int .u8 67,.int .u8 75,.int .u8 0,.int .u8 0,.int .u8 0,.int .u8 2] 5 (8,9))) (.cells #[.int .u8 0,.int .u8 0,.int .u8 0,.int .u8 0] 5);rw[qa1]at this;exact .inr ⟨w2.heap.size+1,0,rfl,λj u hj=>by rw[cell_of this];simpa using hj⟩
 have fa:=((Fr.refl [] w2).alloc (.cells #[.int .u8 80,.int .u8 65,.int .u8 67,.int .u8 75,.int .u8 0,.int .u8 0,.int .u8 0,.int .u8 2] 5 (8,9))).alloc (.cells #[.int .u8 0,.int .u8 0,.int .u8 0,.int .u8 0] 5);have HO:=zhd5 c8 c4 (fa.blk q2 (by simp)) (f2.trans fa) hB;clear c8 c4 fa f2 q2 hB;go_upto_region 4 with (at_builtin;refine qd6 sliceU8 rfl _ _ rfl (some ⟨w2.heap.size,0,none⟩) 8 8 [.int .u8 80,.int .u8 65,.int .u8 67,.int .u8 75,.int .u8 0,.int .u8 0,.int .u8 0,.int .u8 2] rfl HO.o0 rfl (by decide) (by simp) (some ⟨w2.heap.size+1,0,none⟩) 4 4 [.int .u8 0,.int .u8 0,.int .u8 0,.int .u8 0] rfl HO.o1 rfl (by decide) (by decide) (by decide) ?_;intro c3 w3 A3;have q3:=A3.fr.blk HO.o2 (by simp);have cc:=cell_of q3 0;have zz:=qau q3 0;simp only[qag,qac]at cc;have HA:=zhd2 A3 q3;clear A3 q3);clear cc zz;obtain⟨G,hG⟩:=zex (w2.heap.size+1+1);obtain⟨w4,hw4⟩:=zex (w3.setCell ⟨P,0,none⟩ (.slice (some ⟨w2.heap.size+1+1,0,none⟩) 12 c3));rw[<-hw4,<-hG];have q4:w4.heap[P]?=some (.cells #[.slice (some ⟨G,0,none⟩) 12 c3,.slice none 0 0,.slice none 0 0,.slice none 0 0] 74 (0,0)):=by rw[hw4,hG];exact qax HA.l1 _
 have f34:Fr [P] w3 w4:=by rw[hw4];exact (Fr.refl [P] w3).setCell (by simp) _
 have f4:Fr [] w w4:=(HO.o3.trans HA.o0.fr).step f34 (λy hy=>.inr (by simp only[qa2]at hy;omega));have own4:w4.ownsRow 0 5 1 (.slice (some ⟨G,0,none⟩) 12 c3) 12 (begin12.map bv):=by
  have h1:=HA.o0.own;rw[qa1,qa1,<-hG]at h1;exact qa7 h1 f34 (λk hk=>by
   simp only[Value.ownBlock,qaw]at hk
   simp only[qa2]
   omega)
 have hGw:w.heap.size≤G:=by have:=f4.size;omega
 have hPG:P≠G:=by omega
 have hc3:12≤c3∧c3≤maxLen:=⟨HA.o0.le,HA.o0.max⟩;unfold maxLen at hc3;have H4:=zhd5 q4 f4 own4 hGw hPG;clear q4 f34 f4 own4 hGw hw4 hG HO HA hcv hPG;go_upto_region 5 with fail;obtain⟨M,hM⟩:=zex w4.heap.size;obtain⟨w5,hw5⟩:=zex ((w4.alloc (.map #[] 0)).alloc (.cells #[.map (some w4.heap.size)] 75));have f5:Fr [] w4 w5:=by rw[hw5];exact ((Fr.refl [] w4).alloc _).alloc _
 rw[<-hw5];have q5:=f5.blk H4.o0 (by simp);have e1:w5.cell? ⟨P,1,none⟩=some (.slice none 0 0):=by rw[cell_of q5];rfl
 have H5:=zhd f5;clear f5 hw5 q5 hM M hmm;go_wp2;go_loopg [46] 0 (λk s46 wr=>s46 = .int .i64 0∧Fr [] w5 wr);case atStart=>exact⟨rfl,Fr.refl _ _⟩
 case round=>
 obtain⟨rfl,hf⟩:=hrel;have e1':=hf.cell e1 (by simp);obtain⟨w6,hw6⟩:=zex wr;have H6:=zhd hf;clear hf e1;go_wp2_with (first
  | (go_at_call 31;refine (qqo _).mono ?_;rintro e w1 ⟨rfl,hw⟩;obtain rfl:=hw.symm)
  | (go_at_call 32;refine (qom _ _).mono ?_;rintro e w1 ⟨rfl,hw⟩;obtain rfl:=hw.symm))
 go_loopg [63] 0 (λk s63 wq=>s63 = .int .i64 0∧wq=wr);case atStart=>exact⟨rfl,rfl⟩
 case round=>
 obtain⟨rfl,rfl⟩:=hrel;clear hw6 w6 e1';have f6:Fr [] w4 wr:=H5.out.trans H6.out;have own6:=qa7 H4.o2 (f6.trans (Fr.drew1 [] wr)) (by simp);have hP:=(f6.trans (Fr.drew1 [] wr)).blk H4.o0 (by simp);have q0:∀x,(sup [G] wr.drew x).cell? ⟨P,0,none⟩=some (.slice (some ⟨G,0,none⟩) 12 c3):=λx=>(qcm [G] wr.drew x).cell (by rw[cell_of hP];rfl) (by simpa using H4.l4)
 obtain⟨r6,_⟩:=qc1 own6;have hsh:=sha.qlh (some ⟨G,0,none⟩) c3 begin12 wr.drew r6 (by decide);have H7:=zhd3 f6 own6 hsh;clear f6 own6 hsh r6 hP;go_upto_region 16 with fail;refine qb3 11 [(false,0),(false,1),(false,2),(false,3),(false,4),(false,5),(false,6),(false,7),(true,8),(true,9),(true,10)] [G] (by kernel_rfl) (by kernel_rfl) (λ_ _ d _ _ h=>by cases d<;>exact h) ?_;simp only[qak,qam,qaz,qa0,qad,qaj,qbk];refine qb0 8 rfl ?_;simp only[qah,qan,qad,qaj,qak,qam];repeat (go_big_quiet_step (fail))
 refine wpQuiet_nil ?_;clear q0;refine qb6 rfl ?_;intro X hX;go_wp2_with (go_at_call 35;refine H7.l2.mono ?_;rintro e w7 ⟨⟨a7,c7,rfl,r7⟩,f7⟩);refine hX.out _ _ (f7.mono (by simp)) ?_;clear hX X;have HS:=zhd2 r7 f7;clear r7 f7;have own7:=qa7 H7.o1 HS.l1 (by simp);have c7l:=HS.o0.le;rw[sha.qck]at c7l;refine qb6 rfl ?_;intro X hX;refine qda sliceU8 _ _ rfl (.slice (some ⟨G,0,none⟩) 12 c3) 12 (begin12.map bv) [G] rfl rfl own7 a7 20 c7 ((sha.sha1 begin12).map bv) rfl c7l HS.o0.nil HS.o0.cs (by rw[qap];rfl) (qc0 _) (by omega) (by unfold maxLen;omega) ?_;intro a8 c8 w8 A8;refine hX.out _ _ A8.fr ?_;clear hX X;refine qb6 rfl ?_;intro X hX;go_wp2_with (go_at_call 29;refine (qrn a8 32 c8 _ A8.le A8.max).mono ?_;rintro e w9 ⟨rfl,hw⟩;obtain rfl:=hw.symm);refine hX.out _ _ (Fr.refl _ _) ?_;clear hX X;refine qcq ?_;have H8:=zhd A8;clear A8 own7 c7l;go_wp2;go_ret;have o8:=H8.out.own;rw[<-qbe]at o8;obtain⟨r8,_⟩:=qc1 o8;have f47:Fr [] w w7:=H4.o1.trans (H7.o0.trans ((Fr.drew1 [] wr).trans HS.l1));refine⟨a8,rfl,⟨r8.cs,qae _,by decide,λe=>by have:=r8.nil e;have:=r8.le;rw[qab,sha.qck]at this;simp[begin12]at this;omega⟩,λx hx=>⟨?_,qdu o8 (qdw hx)⟩,f47.step H8.out.fr (λy hy=>.inr (by simp only[qa2]at hy;rw[hy];exact H4.o3))⟩;rcases H8.out.at_ x hx with h|h
 ·simp only[qa2]at h;rw[h];exact H4.o3
 ·rw[h];exact f47.size
theorem zc2 (w:World):Calls Tryz.prog 45 #[.slice none 0 0] w λe w'=>e = .returned (.slice none 0 0)∧w'=w:=by go_enter Tryz.func45,Tryz.ntmps45;go_wp2;go_ret;exact⟨rfl,rfl⟩
theorem qr7 (w:World):(Instr.slice 9 (.string ⟨#[80,65,67,75,0,0,0,2]⟩) none (some (.int .i64 8)) none).run Tryz.prog w = .ok (.string ⟨#[80,65,67,75,0,0,0,2]⟩) w:=by kernel_rfl
theorem zbh (a:Option Addr) (w:World) (h:lib.Rd w a 32 (begin12++sha.sha1 begin12)) (hlow:∀x∈blk a,x<w.heap.size) :
  Calls Tryz.prog 18 #[.slice a 32 32] w λe w'=>(∃s:ByteArray,s.size=40∧e = .returned (.tuple #[.slice none 0 0,.string s,.int .i64 0]))∧Fr [] w w':=by
 have hlen:(begin12++sha.sha1 begin12).length=32:=by rw[qab,sha.qck];rfl
 obtain⟨bs,hbs⟩:=zex (begin12++sha.sha1 begin12);have e8:bs.take 8=[80,65,67,75,0,0,0,2]:=by rw[hbs];rfl
 have e12:bs.take 12=begin12:=by rw[hbs];rfl
 have e84:(bs.drop 8).take 4=[0,0,0,0]:=by rw[hbs];rfl
 have e20:(bs.drop 12).take 20=sha.sha1 begin12:=by rw[hbs];exact qbd (Nat.le_of_eq (sha.qck _))
 rw[<-hbs]at h hlen;clear hbs;obtain⟨g,o,rfl,_⟩:=h.cs.at (by rw[qap,hlen];decide);have r8:=h.take 8;rw[e8]at r8;have cv8:∀x c,(convert 23 9 (.slice (some ⟨g,o,none⟩) 8 c)).run Tryz.prog (w.drewN x) = .ok (.string ⟨#[80,65,67,75,0,0,0,2]⟩) (w.drewN x):=λx c=>qde (w.drewN x) Tryz.underlying23 Tryz.underlying5 Tryz.underlying9 rfl (r8.cs.fr (Fr.drewN [] w x) (by simp)) c
 have hs8:=λw'=>lib.qdy sliceU8 8 (some ⟨g,o,none⟩) 32 32 8 rfl (by decide) w'
 have hsb:=qr7;have HH:=zhd6 h hlen (hlow g (by simp[blk])) e12 e84 e20;clear h hlen hlow e8 e12 e84 e20 r8;go_enter Tryz.func18,Tryz.ntmps18;go_upto_region 4 with fail;go_quiet (fail);go_upto_region 7 with fail;obtain⟨R,w2,hR,hw2,f2,q2⟩:∃R w2,R=w.heap.size∧w2=(w.drewN nq).alloc (.cells #[.slice (some ⟨g,o,none⟩) 32 32,.int .i64 8] 85)∧Fr [] w w2∧w2.heap[R]?=some (.cells #[.slice (some ⟨g,o,none⟩) 32 32,.int .i64 8] 85 (0,0)):=⟨_,_,rfl,rfl,(Fr.drewN [] w nq).alloc _,qay (w.drewN nq) _⟩;rw[<-hw2,<-hR];have hgR:g≠R:=by have:=HH.o2;omega
 have rdr:Rdr w2 R (some ⟨g,o,none⟩) 32 bs 8:=⟨by rw[HH.o1];exact q2,HH.o0.fr f2,by rw[HH.o1];decide,λ_ x hx=>by simp only[blk,qa2]at hx;rw[hx];exact hgR⟩;have ht:=qej R (some ⟨g,o,none⟩) 32 bs 8 4 w2 rdr (by rw[HH.o1];decide) (by rw[HH.o1];decide);have c8:cutAt (some ⟨g,o,none⟩) 32 8=some ⟨g,o+8,none⟩:=by unfold cutAt;simp[qe6]
 rw[c8]at ht;have H2:=zhd4 f2 ht hgR hR;clear hw2 hR f2 q2 rdr ht hgR c8 cv8 hs8 hsb;go_upto_region 8 with (go_at_call 43;refine H2.o1.mono ?_;rintro e w3 ⟨rfl,rd3,f3⟩);have f3w:Fr [] w w3:=H2.o0.step f3 (λy hy=>.inr (by simp only[qa2]at hy;rw[hy,H2.l3];exact qae _));have rz:=rd3.rd.mid 8 4 (by rw[HH.o1];decide);rw[HH.o4,show cutAt (some ⟨g,o,none⟩) 32 8=some ⟨g,o+8,none⟩ by unfold cutAt;simp[qe6]]at rz;have z:∀i,i<4→w3.cell? ⟨g,o+8+i,none⟩=some (.int .u8 0):=λi hi=>by
  obtain⟨g',o',e,hc⟩:=rz.at (i:=i) (by simpa using hi);cases e;rw[hc];match i,hi with
  | 0,_=>rfl
  | 1,_=>rfl
  | 2,_=>rfl
  | 3,_=>rfl
 have z0:=z 0 (by decide);rw[qbn]at z0;have z1:=z 1 (by decide);have z2:=z 2 (by decide);have z3:=z 3 (by decide);have ob:bits .or .i64 0 0=0:=by decide
 have H3:=zhd2 rd3 f3w;clear rd3 f3 f3w rz z;go_upto_region 10 with fail;go_quiet (fail);clear z0 z1 z2 z3 ob;obtain⟨w4,hw4⟩:=zex (w3.drewN nq);rw[<-hw4];have f4:Fr [] w3 w4:=by rw[hw4];exact Fr.drewN [] w3 nq
 have rd4:=H3.o0.fr f4;have c1:w4.cell? ⟨R,1,none⟩=some (.int .i64 12):=by rw[cell_of rd4.box];rfl
 have r12:=rd4.rd.take 12;rw[HH.o3]at r12;have hsh:=sha.qlh (some ⟨g,o,none⟩) 32 begin12 w4 r12 (by decide);have hs12:=λw'=>lib.qdy sliceU8 12 (some ⟨g,o,none⟩) 32 32 12 rfl (by decide) w'
 have H4:=zhd3 rd4 (H3.l1.trans f4) hsh;clear rd4 f4 hw4 r12 hsh;go_wp2;go_loopg [2,66] 0 (λk s2 s66 wr=>s2 = .slice none 0 0∧s66 = .int .i64 0∧wr=w4);case atStart=>exact⟨rfl,rfl,rfl⟩
 case round=>
 obtain⟨rfl,rfl,rfl⟩:=hrel;go_upto_region 21 with (go_at_call 35;refine H4.l2.mono ?_;rintro e w5 ⟨⟨a5,c5,rfl,r5⟩,f5⟩);have rd5:=H4.o0.fr f5;have ht:=qej R (some ⟨g,o,none⟩) 32 bs 12 20 w5 rd5 (by rw[HH.o1];decide) (by rw[HH.o1];decide);have c12:cutAt (some ⟨g,o,none⟩) 32 12=some ⟨g,o+12,none⟩:=by unfold cutAt;simp[qe6]
 rw[c12]at ht;have hnew:R∉blk a5:=by
  obtain⟨g5,o5,rfl,hc5⟩:=r5.cs.at (by rw[qap,sha.qck];decide);simp only[blk,qa2];rintro rfl;obtain⟨x,t,hx⟩:∃x t,sha.sha1 begin12=x::t:=by
   cases hh:sha.sha1 begin12 with
   | nil=>have:=congrArg List.length hh;rw[sha.qck]at this;cases this
   | cons x t=>exact⟨x,t,rfl⟩
  have h0:=hc5 0 (bv x) (by rw[hx];rfl);rw[cell_of rd5.box]at h0;match o5,h0 with
  | 0,h0=>simp[bv]at h0
  | 1,h0=>simp[bv]at h0
  | n+2,h0=>simp at h0
 have H5:=zhd4 r5 f5 ht hnew;clear r5 f5 rd5 ht c12 hs12 c1 hnew;go_upto_region 22 with (go_at_call 43;refine H5.o2.mono ?_;rintro e w6 ⟨rfl,rd6,f6⟩);obtain⟨S,hS⟩:=zex (str (sha.sha1 begin12));have r6:=H5.o0.frS f6 (λx hx hm=>by simp only[qa2]at hm;exact H5.l3 (hm▸hx));have rm:=rd6.rd.mid 12 20 (by rw[HH.o1];decide);rw[HH.l5,show cutAt (some ⟨g,o,none⟩) 32 12=some ⟨g,o+12,none⟩ by unfold cutAt;simp[qe6]]at rm;have cvA:=qde w6 Tryz.underlying23 Tryz.underlying5 Tryz.underlying9 (sha.qck begin12) rm.cs;have cvB:=qde w6 Tryz.underlying23 Tryz.underlying5 Tryz.underlying9 (sha.qck begin12) r6.cs;rw[<-hS]at cvA cvB;have hss:(S==S)=true:=by rw[hS,qr6];exact beq_self_eq_true _
 have k1:w6.cell? ⟨R,1,none⟩=some (.int .i64 32):=by rw[cell_of rd6.box];rfl
 have hex:=qps a5 c5 (sha.sha1 begin12) w6 r6 (by decide);rw[sha.qck]at hex;obtain⟨X,hX⟩:=zex (str (hexb (sha.sha1 begin12)));rw[<-hX]at hex;have hXs:X.size=40:=by
  have:(str (hexb (sha.sha1 begin12))).size=(hexb (sha.sha1 begin12)).length:=by simp[str,ByteArray.size]
  rw[hX,this,hexb_length,sha.qck]
 have hf:Fr [] w w6:=(H4.o1.trans H5.o1).step f6 (λy hy=>.inr (by simp only[qa2]at hy;rw[hy,H2.l3];exact qae _));have H6:=zhd3 hex hXs hf;clear hex hXs hf hX rm r6 rd6 f6 hS;go_wp2_with (first
  | (go_at_call 45;refine (zc2 _).mono ?_;rintro e w7 ⟨rfl,hw⟩;obtain rfl:=hw.symm)
  | (go_at_call 46;refine H6.o0.mono ?_;rintro e w8 ⟨rfl,f8⟩))
 go_ret3;exact⟨⟨X,H6.o1,rfl⟩,H6.l2.trans f8⟩
end Go.Proofs.YtkmpfgpfbmeihaaGreatDoor.pk
