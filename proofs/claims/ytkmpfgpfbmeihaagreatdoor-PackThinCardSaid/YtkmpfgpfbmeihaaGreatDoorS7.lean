/-
  Texts of this proof, one behind the other: Each, HuffPm, HuffKr, HuffStab, MixE, SortA.
-/
import Derived.Test.YtkmpfgpfbmeihaaGreatDoorS6
set_option maxHeartbeats 16000000
set_option maxRecDepth 100000
set_option linter.unusedVariables false
set_option linter.unusedSimpArgs false
namespace Go.Proofs.YtkmpfgpfbmeihaaGreatDoor.defl
open Go Go.RowKit lib bm mat
inductive Tok where
 | lit (c:UInt8)
 | mat (n d:Nat)
def toks (b:List UInt8) (i:Nat) (l:List Mt):List Tok:=
 if h:i<b.length then
  match l with
  | (a,n,d)::t=>if hc:a=i∧0<n then .mat n d::toks b (i+n) t else .lit b[i]::toks b (i+1) ((a,n,d)::t)
  | []=>.lit b[i]::toks b (i+1) []
 else []
termination_by b.length-i
decreasing_by all_goals omega
theorem qlg {b:List UInt8} {i:Nat} {l:List Mt} (h:b.length≤i):toks b i l=[]:=by unfold toks;rw[dif_neg (by omega)]
theorem qlf {b:List UInt8} {i n d:Nat} {t:List Mt} (h:i<b.length) (hn:0<n):toks b i ((i,n,d)::t) = .mat n d::toks b (i+n) t:=by rw[toks,dif_pos h];dsimp only;rw[dif_pos ⟨rfl,hn⟩]
theorem qg5 {b:List UInt8} {i:Nat} {l:List Mt} (h:i<b.length) (hl:∀a n d t,l=(a,n,d)::t→a≠i):toks b i l = .lit b[i]::toks b (i+1) l:=by
 match l with
 | []=>rw[toks,dif_pos h]
 | (a,n,d)::t=>rw[toks,dif_pos h];dsimp only;rw[dif_neg (λhc=>hl a n d t rfl hc.1)]
theorem qku {b:List UInt8} {r e:Nat}:∀{l:List Mt},Chain b r e l→∀a n d t,l=(a,n,d)::t→a≠e→Chain b r (e+1) l
 | (a',n',d')::t',h,a,n,d,t,he,hne=>by simp only[qwh,qa4]at he;obtain⟨⟨rfl,rfl,rfl⟩,rfl⟩:=he;exact⟨by have:=h.1;omega,h.2⟩
theorem qjc (b:List UInt8) (i:Nat) (l:List Mt):(toks b i l).length≤b.length-i:=by
 obtain⟨k,hk⟩:=zex (b.length-i);induction k using Nat.strongRecOn generalizing i l with
 | ind k ih=>
  by_cases h:i<b.length
  ·match l with
   | []=>
    rw[qg5 h (λa n d t he=>by cases he)];have:=ih (b.length-(i+1)) (by omega) (i+1) [] rfl;simp only[qao];omega
   | (a,n,d)::t=>
    by_cases hc:a=i∧0<n
    ·obtain⟨rfl,hn⟩:=hc;rw[qlf h hn];have:=ih (b.length-(a+n)) (by omega) (a+n) t rfl;simp only[qao];omega
    ·rw[toks,dif_pos h];dsimp only;rw[dif_neg hc];have:=ih (b.length-(i+1)) (by omega) (i+1) ((a,n,d)::t) rfl;simp only[qao];omega
  ·rw[qlg (by omega)];exact qa5 _
def boxT (a al:Option Addr) (bl cap ll cl:Nat) (litV distV:Value) (told:Bool):Value:=.agg #[.slice a bl cap,.slice al ll cl,litV,distV,.bool told]
theorem quq (fid:FuncId) (cv:Array Value) (eg:∀args w,(callFunc fid args).run Tryz.prog w = .ok (.enter fid args) w) (I:List Tok→List Nat→World→Prop) (F0:List Nat)
  (b:List UInt8) (a al:Option Addr) (cap cl r:Nat) (l:List Mt) (litV distV:Value) (told:Bool) (w:World) (hlit1:litV.oneCell'=true) (hdist1:distV.oneCell'=true)
  (hb:Rd w a cap b) (hl:Cs w al (mcells l)) (hlc:l.length≤cl) (hln:al=none→cl=0) (hcm:cl≤maxLen) (hch:Chain b r 0 l) (hr:r≤32768) (hblen:b.length≤1000000)
  (hF:∀x∈F0,x<w.heap.size∧x∉blk a∧x∉blk al)
  (hI0:∀w',Fr [] w w'→I [] F0 w')
  (hlit:∀t F c w',t.length<b.length→I t F w'→Calls Tryz.prog fid (#[.int .u8 (c:UInt8).toNat,.pointer none]++cv) w' λe w2=>e = .returned (.tuple #[])∧Fr F w' w2∧∃F',I (t++[.lit c]) F' w2∧∀y∈F',y∈F∨w'.heap.size≤y)
  (hmat:∀t F n d g o w',t.length<b.length→I t F w'→3≤n→n≤258→1≤d→d≤32768→g∉F→w'.cell? ⟨g,o+1,none⟩=some (.int .i64 (n:Nat))→w'.cell? ⟨g,o+2,none⟩=some (.int .i64 (d:Nat))→
   Calls Tryz.prog fid (#[.int .u8 0,.pointer (some ⟨g,o,none⟩)]++cv) w' λe w2=>e = .returned (.tuple #[])∧Fr F w' w2∧∃F',I (t++[.mat n d]) F' w2∧∀y∈F',y∈F∨w'.heap.size≤y) :
  Calls Tryz.prog 156 #[boxT a al b.length cap l.length cl litV distV told,.func (.func fid) #[] cv] w λe w'=>e = .returned (.tuple #[])∧Fr F0 w w'∧∃F,I (toks b 0 l) F w'∧∀y∈F,y∈F0∨w.heap.size≤y:=by
 obtain⟨BL,hBL⟩:=zex b.length;obtain⟨LL,hLL⟩:=zex l.length;rw[<-hBL]at hblen hlit hmat ⊢;rw[<-hLL]at hlc ⊢;obtain⟨w1,hw1⟩:=zex (w.alloc (.cells #[.slice a BL cap,.slice al LL cl,litV,distV,.bool told] 197 (0,0)));have f1:Fr [] w w1:=by rw[hw1];exact (Fr.refl [] w).alloc _
 have hz1:w1.heap.size=w.heap.size+1:=by rw[hw1,qa1]
 have hbox:w1.heap[w.heap.size]?=some (.cells #[.slice a BL cap,.slice al LL cl,litV,distV,.bool told] 197 (0,0)):=by rw[hw1];exact qay w _
 have HB:=zhd9 (hb.fr f1) (hl.fr f1 (by simp)) hch hbox hz1 f1 hF hBL hLL;have HI:=zhd3 (hI0 w1 f1) hlit hmat;have HW:=zhd hw1.symm;obtain⟨B,hB⟩:=zex w.heap.size;have HBB:=zhd hB;clear hb hl hch hF hI0 hlit hmat hBL hLL hw1 f1 hz1 hbox hB;unfold boxT;go_enter Tryz.func156,Tryz.ntmps156;go_upto_block 0 with fail;have hcm2:cl≤9223372036854775807:=hcm;rw[HW.out,<-HBB.out];go_wp2;go_loopg [4,5] BL (λgk s4 s5 wr=>∃(i k:Nat) (done:List Tok) (F:List Nat),s5 = .int .i64 (i:Nat)∧s4 = .int .i64 (k:Nat)∧gk=BL-i∧i≤BL∧k≤LL∧done++toks b i (l.drop k)=toks b 0 l∧done.length≤i∧Chain b r i (l.drop k)∧I done F wr∧Fr F0 w1 wr∧∀y∈F,y∈F0∨w1.heap.size≤y);case atStart=>exact⟨0,0,[],F0,rfl,rfl,rfl,qa5 _,qa5 _,rfl,qae _,HB.out.2.2.1,HI.o0,.refl _ _,λy hy=>.inl hy⟩
 case round=>
  obtain⟨i,k,done,F,rfl,rfl,hk,hib,hkl,htk,hdl,hch,hI,hfr,hFn⟩:=hrel;obtain⟨hb,hl,hch0,hbox,hz1,f1,hF,hBL,hLL⟩:=HB.out;have hbx:=hfr.blk hbox (λhx=>by have:=(hF _ hx).1;omega);have c0:=cell_of hbx 0;have c1:=cell_of hbx 1;simp only[qag,qac,qaf]at c0 c1;rw[<-HBB.out]at c0 c1;have hB1:B∉F:=λhx=>by
   have:=HBB.out;rcases hFn B hx with q|q
   ·have:=(hF _ q).1;omega
   ·omega
  by_cases hi:i<BL
  ·have hil:i<b.length:=by rw[<-hBL];exact hi
   have hbr:=hb.frS hfr λx hx hx2=>(hF x hx2).2.1 hx
   obtain⟨ga,oa,rfl,hca⟩:=hbr.cs.at (by rw[qap];omega);have d0:wr.cell? ⟨ga,oa+i,none⟩=some (.int .u8 (b[i]'hil).toNat):=hca i _ (by simp[hil,bv]);have hlr:=hl.fr hfr λx hx hx2=>(hF x hx2).2.2 hx
   by_cases hkk:k<LL
   ·have hkl':k<l.length:=by rw[<-hLL];exact hkk
    obtain⟨gl,ol,rfl,hcl⟩:=hlr.at (by rw[qjo];omega);obtain⟨m1,m2,m3⟩:=qq1 l k hkl';have hdrop:=qcg hkl';obtain⟨m,hm⟩:=zex (l[k]);rw[<-hm]at m1 m2 m3 hdrop;obtain⟨x,n,d⟩:=m;simp only at m1 m2 m3;have p1:wr.cell? ⟨gl,ol+k*3,none⟩=some (.int .i64 x):=hcl _ _ m1;have p2:wr.cell? ⟨gl,ol+k*3+1,none⟩=some (.int .i64 n):=hcl _ _ m2;have p3:wr.cell? ⟨gl,ol+k*3+2,none⟩=some (.int .i64 d):=hcl _ _ m3;rw[hdrop]at htk hch;have hgl:gl∉F:=λhx=>by
     have h1:=hl.lt (by intro h;have:=congrArg List.length h;rw[qjo]at this;simp at this;omega) ⟨gl,ol,none⟩ rfl;rcases hFn gl hx with q|q
     ·exact (hF gl q).2.2 (by simp[blk])
     ·have:=f1.size;simp only at h1;omega
    by_cases hxi:x=i
    ·subst hxi;obtain⟨h3,h258,h1,hdr,hdx,hxn,_,hch2⟩:3≤n∧n≤258∧1≤d∧d≤r∧d≤x∧x+n≤b.length∧True∧Chain b r (x+n) (l.drop (k+1)):=⟨hch.2.1,hch.2.2.1,hch.2.2.2.1,hch.2.2.2.2.1,hch.2.2.2.2.2.1,hch.2.2.2.2.2.2.1,trivial,hch.2.2.2.2.2.2.2.2⟩;have hcall:=HI.l2 done F n d gl (ol+k*3) wr (by omega) hI h3 h258 h1 (by omega) hgl p2 p3;have HJ:=zhd7 hcall hfr hFn htk hch2 hdl hk;have hxb:x+n≤1000000:=by omega
     have hxB:x+n≤BL:=by omega
     have hn3:0<n:=by omega
     clear hcall hfr hFn htk hch hch2 hdl hI hk hF hch0 hb hl hlr hcl hca hbr hbx m1 m2 m3 hdrop hm hxn h3 h258 h1 hdr hdx hz1 f1 hbox p3 hBL hLL;go_wp2;refine HJ.out.1.mono ?_;rintro e w2 ⟨rfl,f2,F2,hI2,hF2⟩;have c1b:=f2.cell c1 hB1;have p2b:=f2.cell p2 hgl;have H2:=zhd3 f2 hI2 hF2;clear f2 hI2 hF2 hB1 hgl c1 p2 c0 p1 eg;go_wp2;go_roundg (BL-(x+n));case measure=>have:=HJ.out.2.2.2.2.2.2;omega
     case rel=>
      obtain⟨_,hfr,hFn,htk,hch,hdl,hk⟩:=HJ.out;obtain⟨f2,hI2,hF2⟩:=H2.out;refine⟨x+n,k+1,done++[.mat n d],F2,by go_num,by go_num,rfl,hxB,by omega,?_,?_,hch,hI2,hfr.step f2 λy hy=>hFn y hy,λy hy=>?_⟩
      ·rw[qas,<-htk,qlf hil hn3];rfl
      ·rw[qab];simp only[qao,qbi];omega
      ·rcases hF2 y hy with q|q
       ·exact hFn y q
       ·exact .inr (qar hfr.size q)
    ·have hne:((x:Int)==(i:Int))=false:=by simp only[beq_eq_false_iff_ne];omega
     have hnx:∀a n' d' t,(x,n,d)::l.drop (k+1)=(a,n',d')::t→a≠i:=λa n' d' t he=>by simp only[qwh,qa4]at he;rw[<-he.1.1];exact hxi
     have hch2:=qku (l:=(x,n,d)::l.drop (k+1)) hch _ _ _ _ rfl hxi;rw[qg5 hil hnx,<-hdrop]at htk;rw[<-hdrop]at hch2;clear p2 p3 hdrop hm m1 m2 m3 hgl hxi hnx hch hcl;have hcall:=HI.o1 done F (b[i]'hil) wr (by omega) hI;obtain⟨cc,hcc⟩:=zex (b[i]'hil);rw[<-hcc]at hcall d0 htk;obtain⟨cn,hcn⟩:=zex cc.toNat;rw[<-hcn]at hcall d0;have hiB:i+1≤BL:=hi;have hi6:i≤1000000:=by omega
     have HJ:=zhd8 hcall hfr hFn htk hch2 hdl hk hkl;clear hcall hfr hFn htk hch2 hdl hI hk hF hch0 hb hl hlr hca hbr hbx hz1 f1 hbox hBL hLL hB1 hcc hib hcn;go_wp2;refine HJ.out.1.mono ?_;rintro e w2 ⟨rfl,f2,F2,hI2,hF2⟩;have H2:=zhd3 f2 hI2 hF2;clear f2 hI2 hF2 c0 c1 d0 eg;go_wp2;go_roundg (BL-(i+1));case measure=>have:=HJ.out.2.2.2.2.2.2.1;omega
     case rel=>
      obtain⟨_,hfr,hFn,htk,hch,hdl,hk,hkl⟩:=HJ.out;obtain⟨f2,hI2,hF2⟩:=H2.out;refine⟨i+1,k,done++[.lit cc],F2,by go_num,rfl,rfl,hiB,hkl,?_,?_,hch,hI2,hfr.step f2 λy hy=>hFn y hy,λy hy=>?_⟩
      ·rw[qas];exact htk
      ·rw[qab];simp only[qao,qbi];omega
      ·rcases hF2 y hy with q|q
       ·exact hFn y q
       ·exact .inr (qar hfr.size q)
   ·have hnl:l.drop k=[]:=qc3 (by rw[<-hLL];omega);have hch2:Chain b r (i+1) (l.drop k):=by rw[hnl];trivial
    rw[qg5 hil (λa n' d' t he=>by rw[hnl]at he;cases he)]at htk;clear hch hnl;have hcall:=HI.o1 done F (b[i]'hil) wr (by omega) hI;obtain⟨cc,hcc⟩:=zex (b[i]'hil);rw[<-hcc]at hcall d0 htk;obtain⟨cn,hcn⟩:=zex cc.toNat;rw[<-hcn]at hcall d0;have hiB:i+1≤BL:=hi;have hi6:i≤1000000:=by omega
    have HJ:=zhd8 hcall hfr hFn htk hch2 hdl hk hkl;clear hcall hfr hFn htk hch2 hdl hI hk hF hch0 hb hl hlr hca hbr hbx hz1 f1 hbox hBL hLL hB1 hcc hib hcn;go_wp2;refine HJ.out.1.mono ?_;rintro e w2 ⟨rfl,f2,F2,hI2,hF2⟩;have H2:=zhd3 f2 hI2 hF2;clear f2 hI2 hF2 c0 c1 d0 eg;go_wp2;go_roundg (BL-(i+1));case measure=>have:=HJ.out.2.2.2.2.2.2.1;omega
    case rel=>
     obtain⟨_,hfr,hFn,htk,hch,hdl,hk,hkl⟩:=HJ.out;obtain⟨f2,hI2,hF2⟩:=H2.out;refine⟨i+1,k,done++[.lit cc],F2,by go_num,rfl,rfl,hiB,hkl,?_,?_,hch,hI2,hfr.step f2 λy hy=>hFn y hy,λy hy=>?_⟩
     ·rw[qas];exact htk
     ·rw[qab];simp only[qao,qbi];omega
     ·rcases hF2 y hy with q|q
      ·exact hFn y q
      ·exact .inr (qar hfr.size q)
  ·have HJ:=zhd4 hI hfr hFn htk;clear hI hfr hFn htk hch hF hch0 hb hl hbx hz1 f1 hbox hBL hLL hB1;go_wp2;(try simp only[Exit.inBlock,Exit.then]);refine bodyPost_end (results_none rfl _ _ _) rfl ?_;obtain⟨hI,hfr,hFn,htk⟩:=HJ.out;rw[qlg (by have:=HB.out.2.2.2.2.2.2.2.1;omega),qbr]at htk;rw[htk]at hI;have hB:=HBB.out;exact⟨rfl,(HB.out.2.2.2.2.2.1.mono (by simp)).trans hfr,F,hI,λy hy=>(hFn y hy).imp id λq=>qar HB.out.2.2.2.2.2.1.size q⟩
end Go.Proofs.YtkmpfgpfbmeihaaGreatDoor.defl
namespace Go.Proofs.YtkmpfgpfbmeihaaGreatDoor.huf
open Go
abbrev Coin:=Nat×List Nat
def packs:List Coin→List Coin
 | x::y::t=>(x.1+y.1,x.2++y.2)::packs t
 | _=>[]
def mrg:List Coin→List Coin→List Coin
 | [],p=>p
 | x::l,p=>go x l (mrg l) p
where go (x:Coin) (l:List Coin) (f:List Coin→List Coin):List Coin→List Coin
 | []=>x::l
 | y::p=>if x.1≤y.1 then x::f (y::p) else y::go x l f p
theorem qso (p:List Coin):mrg [] p=p:=rfl
theorem qe2 (l:List Coin):mrg l []=l:=by cases l<;>rfl
theorem qt9 {x y:Coin} {l p:List Coin} (h:x.1≤y.1):mrg (x::l) (y::p)=x::mrg l (y::p):=by show mrg.go x l (mrg l) (y::p)=_;rw[mrg.go,if_pos h]
theorem qua {x y:Coin} {l p:List Coin} (h:¬x.1≤y.1):mrg (x::l) (y::p)=y::mrg (x::l) p:=by show mrg.go x l (mrg l) (y::p)=_;rw[mrg.go,if_neg h];rfl
def Sorted (l:List Coin):Prop:=l.Pairwise λa b=>a.1≤b.1
def sel:List Coin→List Coin→Nat→Nat×Nat
 | _,_,0=>(0,0)
 | [],p,m+1=>(0,min (m+1) p.length)
 | x::l,[],m+1=>(min (m+1) (l.length+1),0)
 | x::l,y::p,m+1=>if x.1≤y.1 then ((sel l (y::p) m).1+1,(sel l (y::p) m).2) else ((sel (x::l) p m).1,(sel (x::l) p m).2+1)
theorem qdv:∀(l p:List Coin),(mrg l p).length=l.length+p.length
 | [],p=>by simp[qso]
 | x::l,[]=>by simp[qe2]
 | x::l,y::p=>by
  by_cases h:x.1≤y.1
  ·rw[qt9 h,qao,qdv l (y::p)];simp only[qao];omega
  ·rw[qua h,qao,qdv (x::l) p];simp only[qao];omega
termination_by l p=>l.length+p.length
theorem qgm:∀(l p:List Coin) (m:Nat),m≤l.length+p.length→(sel l p m).1+(sel l p m).2=m∧(sel l p m).1≤l.length∧(sel l p m).2≤p.length
 | l,p,0,_=>by cases l<;>cases p<;>simp[sel]
 | [],p,m+1,h=>by simp[sel]at h ⊢;omega
 | x::l,[],m+1,h=>by simp[sel]at h ⊢;omega
 | x::l,y::p,m+1,h=>by
  simp only[qao]at h;by_cases hx:x.1≤y.1
  ·obtain⟨h1,h2,h3⟩:=qgm l (y::p) m (by simp only[qao];omega);rw[sel,if_pos hx];simp only[qao]at h3 ⊢;omega
  ·obtain⟨h1,h2,h3⟩:=qgm (x::l) p m (by simp only[qao];omega);rw[sel,if_neg hx];simp only[qao]at h2 ⊢;omega
termination_by l p m=>m
theorem qge:∀(l p:List Coin) (m:Nat),((mrg l p).take m).Perm (l.take (sel l p m).1++p.take (sel l p m).2)
 | l,p,0=>by cases l<;>cases p<;>simp[sel]
 | [],p,m+1=>by
  rw[qso,sel];simp only[qan,qb4];rw[<-qov,qbd (qae p.length)]
 | x::l,[],m+1=>by
  rw[qe2,sel];simp only[List.take_nil,qbr];rw[<-qov,qbd (show (x::l).length≤l.length+1 from qae _)]
 | x::l,y::p,m+1=>by
  by_cases hx:x.1≤y.1
  ·rw[qt9 hx,sel,if_pos hx];simp only[qah,qdk];exact (qge l (y::p) m).cons x
  ·rw[qua hx,sel,if_neg hx];simp only[qah];exact ((qge (x::l) p m).cons y).trans List.perm_middle.symm
termination_by l p m=>m
theorem qmb:∀(l p:List Coin) (m:Nat) (i j:Nat) (x y:Coin),Sorted l→l[i]?=some x→p[j]?=some y→x.1<y.1→j<(sel l p m).2→i<(sel l p m).1
 | l,p,0,i,j,x,y,_,_,_,_,h=>by cases l<;>cases p<;>simp[sel]at h
 | [],p,m+1,i,j,x,y,_,hx,_,_,_=>by simp at hx
 | x0::l,[],m+1,i,j,x,y,_,_,hy,_,_=>by simp at hy
 | x0::l,y0::p,m+1,i,j,x,y,hs,hx,hy,hxy,h=>by
  have hs':=qcp.1 hs;by_cases h0:x0.1≤y0.1
  ·rw[sel,if_pos h0]at h ⊢;cases i with
   | zero=>simp
   | succ i=>rw[qaf]at hx;have:=qmb l (y0::p) m i j x y hs'.2 hx hy hxy h;simp only;omega
  ·rw[sel,if_neg h0]at h ⊢;cases j with
   | zero=>
    simp only[qac,qaw]at hy;subst hy;exfalso;cases i with
    | zero=>
     simp only[qac,qaw]at hx;subst hx;omega
    | succ i=>
     rw[qaf]at hx;have:=hs'.1 x (qa8 hx);omega
   | succ j=>rw[qaf]at hy;exact qmb (x0::l) p m i j x y hs hx hy hxy (by simpa using h)
termination_by l p m=>m
theorem qmc:∀(l p:List Coin) (m:Nat) (i j:Nat) (x y:Coin),Sorted l→l[i]?=some x→p[j]?=some y→(sel l p m).1≤i→j<(sel l p m).2→y.1<x.1
 | l,p,0,i,j,x,y,_,_,_,_,h=>by cases l<;>cases p<;>simp[sel]at h
 | [],p,m+1,i,j,x,y,_,hx,_,_,_=>by simp at hx
 | x0::l,[],m+1,i,j,x,y,_,_,hy,_,_=>by simp at hy
 | x0::l,y0::p,m+1,i,j,x,y,hs,hx,hy,hi,h=>by
  have hs':=qcp.1 hs;by_cases h0:x0.1≤y0.1
  ·rw[sel,if_pos h0]at h hi;cases i with
   | zero=>simp at hi
   | succ i=>rw[qaf]at hx;exact qmc l (y0::p) m i j x y hs'.2 hx hy (by simpa using hi) h
  ·rw[sel,if_neg h0]at h hi;have hxx:x0.1≤x.1:=by
    cases i with
    | zero=>
     simp only[qac,qaw]at hx;rw[hx];exact qae _
    | succ i=>rw[qaf]at hx;exact hs'.1 x (qa8 hx)
   cases j with
   | zero=>
    simp only[qac,qaw]at hy;subst hy;omega
   | succ j=>rw[qaf]at hy;exact qmc (x0::l) p m i j x y hs hx hy hi (by simpa using h)
termination_by l p m=>m
theorem qia:∀(l p:List Coin),Sorted l→Sorted p→Sorted (mrg l p)
 | [],p,_,hp=>hp
 | x::l,[],hl,_=>by rw[qe2];exact hl
 | x::l,y::p,hl,hp=>by
  have hl':=qcp.1 hl;have hp':=qcp.1 hp;have mem:∀(a b:List Coin) z,z∈mrg a b→z∈a∨z∈b:=λa b z hz=>by
   have h1:=qge a b (mrg a b).length;rw[qbd (qae _)]at h1;rcases qbu.1 (h1.mem_iff.1 hz) with k|k
   ·exact .inl (qb7 k)
   ·exact .inr (qb7 k)
  by_cases h:x.1≤y.1
  ·rw[qt9 h];refine qcp.2 ⟨λz hz=>?_,qia l (y::p) hl'.2 hp⟩;rcases mem _ _ z hz with k|k
   ·exact hl'.1 z k
   ·rcases qbh.1 k with k|k
    ·rw[k];exact h
    ·exact qar h (hp'.1 z k)
  ·rw[qua h];refine qcp.2 ⟨λz hz=>?_,qia (x::l) p hl hp'.2⟩;rcases mem _ _ z hz with k|k
   ·rcases qbh.1 k with k|k
    ·rw[k];omega
    ·have:=hl'.1 z k;omega
   ·exact hp'.1 z k
termination_by l p=>l.length+p.length
theorem qdo:∀l:List Coin,(packs l).length=l.length/2
 | []=>rfl
 | [x]=>by simp[packs]
 | x::y::t=>by rw[packs,qao,qdo t];simp only[qao];omega
theorem qe0:∀(l:List Coin) (j:Nat) (y:Coin),(packs l)[j]?=some y→∃u v,l[2*j]?=some u∧l[2*j+1]?=some v∧y=(u.1+v.1,u.2++v.2)
 | [],j,y,h=>by simp[packs]at h
 | [x],j,y,h=>by simp[packs]at h
 | x::z::t,0,y,h=>by
  simp only[packs,qac,qaw]at h;exact⟨x,z,rfl,rfl,h.symm⟩
 | x::z::t,j+1,y,h=>by rw[packs,qaf]at h;obtain⟨u,v,h1,h2,h3⟩:=qe0 t j y h;exact⟨u,v,by rw[show 2*(j+1)=2*j+1+1 from by omega];exact h1,by rw[show 2*(j+1)+1=2*j+1+1+1 from by omega];exact h2,h3⟩
theorem qkb {l:List Coin} (h:Sorted l) {i j:Nat} {x y:Coin} (hi:l[i]?=some x) (hj:l[j]?=some y) (hij:i≤j):x.1≤y.1:=by
 obtain⟨h1,rfl⟩:=qa9.1 hi;obtain⟨h2,rfl⟩:=qa9.1 hj;by_cases e:i=j
 ·subst e;exact qae _
 ·exact zdd.1 h i j h1 h2 (by omega)
theorem qk4 (l:List Coin) (h:Sorted l):Sorted (packs l):=by
 refine zdd.2 λi j hi hj hij=>?_
 obtain⟨u,v,h1,h2,h3⟩:=qe0 l i _ (qai hi);obtain⟨u',v',k1,k2,k3⟩:=qe0 l j _ (qai hj);rw[h3,k3];have a1:=qkb h h1 k1 (by omega);have a2:=qkb h h2 k2 (by omega);simp only;omega
theorem qmq:∀(l:List Coin) (p:Nat),p≤(packs l).length→((packs l).take p).flatMap (·.2)=(l.take (2*p)).flatMap (·.2)
 | l,0,_=>by simp
 | [],p+1,h=>by simp[packs]at h
 | [x],p+1,h=>by simp[packs]at h
 | x::y::t,p+1,h=>by rw[packs,show 2*(p+1)=2*p+1+1 from by omega];simp only[qah,qcl,qas];rw[qmq t p (by rw[packs,qao]at h;omega)]
def Pos (l:List Coin):Prop:=∀x∈l,0<x.1
theorem qxr (l:List Coin) (h:Pos l):Pos (packs l):=by intro y hy;obtain⟨j,hj⟩:=List.getElem?_of_mem hy;obtain⟨u,v,h1,h2,rfl⟩:=qe0 l j y hj;have:=h u (qa8 h1);simp only;omega
theorem qsp (a b:List Coin) (z:Coin) (hz:z∈mrg a b):z∈a∨z∈b:=by
 have h1:=qge a b (mrg a b).length;rw[qbd (qae _)]at h1;rcases qbu.1 (h1.mem_iff.1 hz) with k|k
 ·exact .inl (qb7 k)
 ·exact .inr (qb7 k)
def row (l:List Coin):Nat→List Coin
 | 0=>[]
 | k+1=>mrg l (packs (row l k))
theorem qkd (l:List Coin) (h:Sorted l):∀k,Sorted (row l k)
 | 0=>List.Pairwise.nil
 | k+1=>qia l _ h (qk4 _ (qkd l h k))
theorem qr8 (l:List Coin) (h:Pos l):∀k,Pos (row l k)
 | 0=>by intro x hx;cases hx
 | k+1=>by
  intro x hx;rcases qsp _ _ x hx with hx|hx
  ·exact h x hx
  ·exact qxr _ (qr8 l h k) x hx
theorem qke (l:List Coin) (k:Nat):(row l (k+1)).length=l.length+(row l k).length/2:=by rw[row,qdv,qdo]
theorem qxd (l:List Coin) (L:Nat) (hn:l.length≤2^L):∀k,k≤L→2*l.length≤(row l (k+1)).length+2^(L-k)
 | 0,_=>by
  rw[qke,qp4];show 2*l.length≤l.length+0/2+2^L;omega
 | k+1,h=>by
  have ih:=qxd l L hn k (by omega);rw[qke];have e:2^(L-k)=2*2^(L-(k+1)):=by rw[show L-k=L-(k+1)+1 from by omega,qcs,qcc]
  omega
def sl (l:List Coin) (k m:Nat):Nat×Nat:=sel l (packs (row l k)) m
def lenf (l:List Coin):Nat→Nat→Nat→Nat
 | 0,_,_=>0
 | k+1,m,i=>(if i<(sl l k m).1 then 1 else 0)+lenf l k (2*(sl l k m).2) i
theorem qsw (l:List Coin):∀k m i,lenf l k m i≤k
 | 0,_,_=>qae _
 | k+1,m,i=>by have:=qsw l k (2*(sl l k m).2) i;rw[lenf];split<;>omega
theorem qk0 {l:List Coin} {m:Nat} {x:Coin} (h:x∈l.take m):∃t,t<m∧l[t]?=some x:=by
 obtain⟨t,ht⟩:=List.getElem?_of_mem h;rw[qbs]at ht;split at ht
 ·exact⟨t,by assumption,ht⟩
 ·cases ht
theorem qhy {l:List Coin} {m t:Nat} {x:Coin} (h:l[t]?=some x) (ht:t<m):x∈l.take m:=by refine qa8 (i:=t) ?_;rw[qbs,if_pos ht,h]
theorem zen (l:List Coin) (hs:Sorted l) (hp:Pos l) (k m i:Nat) (hm:m≤(row l (k+2)).length) (h:i<(sl l k (2*(sl l (k+1) m).2)).1):i<(sl l (k+1) m).1:=by
 have hm':m≤l.length+(packs (row l (k+1))).length:=by rw[row,qdv]at hm;exact hm
 obtain⟨_,_,hp3⟩:=qgm l (packs (row l (k+1))) m hm';change (sl l (k+1) m).2≤_ at hp3;rw[qdo]at hp3;generalize hP:(sl l (k+1) m).2=P at *;have hr:2*P≤l.length+(packs (row l k)).length:=by
  have:(row l (k+1)).length=l.length+(packs (row l k)).length:=by rw[row,qdv]
  omega
 obtain⟨_,ha,_⟩:=qgm l (packs (row l k)) (2*P) hr;change (sl l k (2*P)).1≤_ at ha;have hil:i<l.length:=by omega
 have hx:l[i]?=some l[i]:=qai hil;have hmem:l[i]∈(row l (k+1)).take (2*P):=by have h1:=qge l (packs (row l k)) (2*P);rw[show mrg l (packs (row l k))=row l (k+1) from rfl]at h1;exact h1.mem_iff.2 (qbu.2 (.inl (qhy hx h)))
 obtain⟨t,ht,htx⟩:=qk0 hmem;have hj:t/2<(packs (row l (k+1))).length:=by rw[qdo];omega
 obtain⟨u,v,h1,h2,h3⟩:=qe0 _ _ _ (qai hj);have hpos:=qr8 l hp (k+1);have hu:=hpos u (qa8 h1);have hv:=hpos v (qa8 h2);have hlt:l[i].1<((packs (row l (k+1)))[t/2]).1:=by
  rw[h3];simp only;rcases (show t=2*(t/2)∨t=2*(t/2)+1 from by omega) with e|e
  ·rw[e,h1]at htx;rw[<-qbm htx];omega
  ·rw[e,h2]at htx;rw[<-qbm htx];omega
 exact qmb l (packs (row l (k+1))) m i (t/2) l[i] _ hs hx (qai hj) hlt (by
  change t/2<(sl l (k+1) m).2
  rw[hP]
  omega)
theorem qq2 (l:List Coin) (hs:Sorted l) (hp:Pos l):∀k m i,m≤(row l (k+1)).length→(sl l k m).1≤i→lenf l (k+1) m i=0
 | 0,m,i,_,h=>by rw[lenf,if_neg (by omega),lenf]
 | k+1,m,i,hm,h=>by
  have hm':m≤l.length+(packs (row l (k+1))).length:=by rw[row,qdv]at hm;exact hm
  obtain⟨_,_,hp3⟩:=qgm l (packs (row l (k+1))) m hm';change (sl l (k+1) m).2≤_ at hp3;rw[qdo]at hp3;rw[lenf,if_neg (by omega),qbg];refine qq2 l hs hp k _ i (by omega) ?_;rcases qb8 i (sl l k (2*(sl l (k+1) m).2)).1 with hc|hc
  ·have:=zen l hs hp k m i hm hc;omega
  ·exact hc
def sumTo:Nat→(Nat→Nat)→Nat
 | 0,_=>0
 | n+1,f=>sumTo n f+f n
theorem qiv {f g:Nat→Nat}:∀n,(∀i,i<n→f i=g i)→sumTo n f=sumTo n g
 | 0,_=>rfl
 | n+1,h=>by rw[sumTo,sumTo,qiv n λi hi=>h i (by omega),h n (by omega)]
theorem ql9 (f:Nat→Nat) (c a:Nat):∀n,sumTo n (λi=>if i<a then f i else f i+c)=sumTo n f+(n-a)*c
 | 0=>by simp[sumTo]
 | n+1=>by
  rw[sumTo,sumTo,ql9 f c a n];by_cases h:n<a
  ·rw[if_pos h,show n+1-a=0 from by omega,show n-a=0 from by omega];omega
  ·rw[if_neg h,show n+1-a=n-a+1 from by omega,qc8,qnu];omega
theorem que (l:List Coin) (hs:Sorted l) (hp:Pos l):∀k m,m≤(row l k).length→2*sumTo l.length (λi=>2^(k-lenf l k m i))+m*2^k=2*(l.length*2^k)
 | 0,m,hm=>by
  have:m=0:=by simpa[row] using hm
  subst this;have e:∀n,sumTo n (λi=>2^(0-lenf l 0 0 i))=n:=λn=>by
   induction n with
   | zero=>rfl
   | succ n ih=>rw[sumTo,ih];simp
  rw[e];omega
 | k+1,m,hm=>by
  have hm':m≤l.length+(packs (row l k)).length:=by rw[row,qdv]at hm;exact hm
  obtain⟨h1,h2,h3⟩:=qgm l (packs (row l k)) m hm';change (sl l k m).1+(sl l k m).2=m at h1;change (sl l k m).1≤_ at h2;change (sl l k m).2≤_ at h3;rw[qdo]at h3;have ih:=que l hs hp k (2*(sl l k m).2) (by omega);have hstep:sumTo l.length (λi=>2^(k+1-lenf l (k+1) m i))=sumTo l.length (λi=>if i<(sl l k m).1 then 2^(k-lenf l k (2*(sl l k m).2) i) else 2^(k-lenf l k (2*(sl l k m).2) i)+2^k):=by
   refine qiv _ λi _=>?_
   by_cases hi:i<(sl l k m).1
   ·rw[if_pos hi,lenf,if_pos hi];congr 1;omega
   ·have hz:=qq2 l hs hp k m i hm (by omega);have hz2:=hz;rw[lenf,if_neg hi,qbg]at hz2;rw[if_neg hi,hz,hz2,qp4,qp4,qcs];omega
  rw[hstep,ql9];generalize sumTo l.length (λi=>2^(k-lenf l k (2*(sl l k m).2) i))=S at *;generalize (sl l k m).1=a at *;generalize (sl l k m).2=p at *;obtain⟨q,hq⟩:∃q,l.length=a+q:=⟨l.length-a,by omega⟩;rw[hq]at ih ⊢;rw[show a+q-a=q from by omega,<-h1,qcs];generalize 2^k=P at *;simp only[qc8,qhl]at ih ⊢;have e1:2*p*P=2*(p*P):=qc4 _ _ _;have e2:a*(P*2)=2*(a*P):=by rw[<-qc4,qcc]
  have e3:p*(P*2)=2*(p*P):=by rw[<-qc4,qcc]
  have e4:q*(P*2)=2*(q*P):=by rw[<-qc4,qcc]
  omega
theorem qt6 (l:List Coin) (hs:Sorted l) (hp:Pos l) (X:Coin) (hn:2≤l.length) (hX:l[l.length-1]?=some X):∀k y,(packs (row l k))[l.length-2]?=some y→X.1≤y.1
 | 0,y,h=>by simp[row,packs]at h
 | k+1,y,h=>by
  rcases qb8 y.1 X.1 with hc|hc
  ·exfalso;obtain⟨u,v,h1,h2,rfl⟩:=qe0 _ _ _ h;have hu:=qr8 l hp (k+1) u (qa8 h1);simp only at hc;have hvX:v.1<X.1:=by omega
   have hlen:2*(l.length-2)+1<(row l (k+1)).length:=(qa9.1 h2).1;have htaken:∀z∈(row l (k+1)).take (2*l.length-2),z.1≤v.1:=λz hz=>by obtain⟨t,ht,htz⟩:=qk0 hz;exact qkb (qkd l hs (k+1)) htz h2 (by omega)
   have hperm:=qge l (packs (row l k)) (2*l.length-2);rw[show mrg l (packs (row l k))=row l (k+1) from rfl]at hperm;have hrl:(row l (k+1)).length=l.length+(packs (row l k)).length:=by rw[row,qdv]
   obtain⟨s1,s2,s3⟩:=qgm l (packs (row l k)) (2*l.length-2) (by omega);have ha:(sel l (packs (row l k)) (2*l.length-2)).1≤l.length-1:=by
    rcases qb8 (l.length-1) (sel l (packs (row l k)) (2*l.length-2)).1 with hc2|hc2
    ·have:=htaken X (hperm.mem_iff.2 (qbu.2 (.inl (qhy hX hc2))));omega
    ·exact hc2
   have hj:l.length-2<(packs (row l k)).length:=by omega
   have hy':=qai hj;have h3:=qt6 l hs hp X hn hX k _ hy';have h4:=htaken _ (hperm.mem_iff.2 (qbu.2 (.inr (qhy hy' (show l.length-2<_ by omega)))));omega
  ·exact hc
theorem zak (l:List Coin) (hs:Sorted l) (hp:Pos l) (k:Nat) (hn:2≤l.length) (hm:2*l.length-2≤(row l (k+1)).length):(sl l k (2*l.length-2)).1=l.length:=by
 have hX:l[l.length-1]?=some l[l.length-1]:=qai (by omega);have hrl:(row l (k+1)).length=l.length+(packs (row l k)).length:=by rw[row,qdv]
 obtain⟨s1,s2,s3⟩:=qgm l (packs (row l k)) (2*l.length-2) (by omega);unfold sl;rcases qb8 (sel l (packs (row l k)) (2*l.length-2)).1 l.length with hc|hc
 ·exfalso;have hj:l.length-2<(packs (row l k)).length:=by omega
  have hy:=qai hj;have h1:=qmc l (packs (row l k)) (2*l.length-2) (l.length-1) (l.length-2) _ _ hs hX hy (by omega) (by omega);have h2:=qt6 l hs hp _ hn hX k _ hy;omega
 ·omega
theorem zbp (l:List Coin) (hs:Sorted l) (hp:Pos l) (L:Nat) (hL:1≤L) (hn:2≤l.length) (hnL:l.length≤2^L) :
  2*l.length-2≤(row l L).length∧(∀i,i<l.length→1≤lenf l L (2*l.length-2) i)∧sumTo l.length (λi=>2^(L-lenf l L (2*l.length-2) i))=2^L:=by
 obtain⟨k,rfl⟩:∃k,L=k+1:=⟨L-1,by omega⟩;have hb:=qxd l (k+1) hnL k (by omega);rw[show k+1-k=1 from by omega,Nat.pow_one]at hb;refine⟨by omega,λi hi=>?_,?_⟩
 ·have:=zak l hs hp k hn (by omega);rw[lenf,if_pos (by omega)];omega
 ·have h1:=que l hs hp (k+1) (2*l.length-2) (by omega);obtain⟨q,hq⟩:∃q,l.length=q+1:=⟨l.length-1,by omega⟩;generalize sumTo l.length (λi=>2^(k+1-lenf l (k+1) (2*l.length-2) i))=S at *;rw[hq]at h1;generalize 2^(k+1)=P at *;rw[show 2*(q+1)-2=2*q from by omega,qc4,qc8,qnu]at h1;omega
def Stb {α:Type} (a b:List (Nat×α)):Prop:=∀k:Nat,a.filter (λx=>x.1==k)=b.filter λx=>x.1==k
theorem Stb.refl {α:Type} (a:List (Nat×α)):Stb a a:=λ_=>rfl
theorem Stb.symm {α:Type} {a b:List (Nat×α)} (h:Stb a b):Stb b a:=λk=>(h k).symm
theorem Stb.trans {α:Type} {a b c:List (Nat×α)} (h:Stb a b) (h':Stb b c):Stb a c:=λk=>(h k).trans (h' k)
theorem Stb.append {α:Type} {a b c d:List (Nat×α)} (h:Stb a b) (h':Stb c d):Stb (a++c) (b++d):=λk=>by rw[qg0,qg0,h k,h' k]
theorem Stb.swap {α:Type} {a b:List (Nat×α)} (h:∀x∈a,∀y∈b,y.1<x.1):Stb (a++b) (b++a):=λk=>by
 rw[qg0,qg0];by_cases ha:a.filter (λx=>x.1==k)=[]
 ·rw[ha];simp
 ·obtain⟨x,hx⟩:=List.exists_mem_of_ne_nil _ ha;have hx':=List.mem_filter.1 hx;have e:x.1=k:=by simpa using hx'.2
  have hb:b.filter (λy=>y.1==k)=[]:=by
   refine List.filter_eq_nil_iff.2 λy hy=>?_
   have:=h x hx'.1 y hy;simp only[beq_iff_eq];omega
  rw[hb];simp
theorem Stb.mem {α:Type} {a b:List (Nat×α)} (h:Stb a b) (x:Nat×α):x∈a↔x∈b:=by
 have h1:x∈a↔x∈a.filter (λy=>y.1==x.1):=by simp[List.mem_filter]
 have h2:x∈b↔x∈b.filter (λy=>y.1==x.1):=by simp[List.mem_filter]
 rw[h1,h2,h x.1]
def Srt {α:Type} (l:List (Nat×α)):Prop:=l.Pairwise λa b=>a.1≤b.1
theorem za1 {α:Type} {A1 A2 B1 B2 L R:List (Nat×α)} (hA:Srt (A1++A2)) (hB:Srt (B1++B2))
  (h1:∀x∈A2,∀y∈B1,y.1<x.1) (h2:∀x∈A1,∀y∈B2,x.1≤y.1)
  (hL:Srt L) (hLs:Stb L (A1++B1)) (hR:Srt R) (hRs:Stb R (A2++B2)) :
  Srt (L++R)∧Stb (L++R) (A1++A2++(B1++B2)):=by
 refine⟨qfm.2 ⟨hL,hR,λx hx y hy=>?_⟩,?_⟩
 ·rcases qbu.1 ((hLs.mem x).1 hx) with a|a<;>rcases qbu.1 ((hRs.mem y).1 hy) with b|b
  ·exact (qfm.1 hA).2.2 x a y b
  ·exact h2 x a y b
  ·exact Nat.le_of_lt (h1 y b x a)
  ·exact (qfm.1 hB).2.2 x a y b
 ·refine (hLs.append hRs).trans ?_;have:=Stb.append (Stb.append (.refl A1) (Stb.symm (Stb.swap h1))) (.refl B2);simpa[qas] using this
theorem zbo {α:Type} {x:Nat×α} {B1 B2:List (Nat×α)} (hB:Srt (B1++B2)) (h1:∀y∈B1,y.1<x.1) (h2:∀y∈B2,x.1≤y.1) :
  Srt (B1++x::B2)∧Stb (B1++x::B2) (x::(B1++B2)):=by
 obtain⟨hb1,hb2,hb3⟩:=qfm.1 hB;refine⟨qfm.2 ⟨hb1,qcp.2 ⟨h2,hb2⟩,λa ha y hy=>?_⟩,?_⟩
 ·rcases qbh.1 hy with e|e
  ·rw[e];exact Nat.le_of_lt (h1 a ha)
  ·exact hb3 a ha y e
 ·have:=Stb.append (Stb.symm (Stb.swap (a:=[x]) (b:=B1) λa ha y hy=>by rw[qa2.1 ha];exact h1 y hy)) (.refl B2);simpa[qas] using this
theorem qxm {α:Type} {x:Nat×α} {A1 A2:List (Nat×α)} (hA:Srt (A1++A2)) (h1:∀y∈A1,y.1≤x.1) (h2:∀y∈A2,x.1<y.1) :
  Srt (A1++x::A2)∧Stb (A1++x::A2) (A1++A2++[x]):=by
 obtain⟨ha1,ha2,ha3⟩:=qfm.1 hA;refine⟨qfm.2 ⟨ha1,qcp.2 ⟨λy hy=>Nat.le_of_lt (h2 y hy),ha2⟩,λa ha y hy=>?_⟩,?_⟩
 ·rcases qbh.1 hy with e|e
  ·rw[e];exact h1 a ha
  ·exact ha3 a ha y e
 ·have:=Stb.append (.refl A1) (Stb.symm (Stb.swap (a:=A2) (b:=[x]) λa ha y hy=>by rw[qa2.1 hy];exact h2 a ha));simpa[qas] using this
theorem qny:∀(a b:List Coin),Sorted a→Sorted b→Stb a b→a=b
 | [],[],_,_,_=>rfl
 | [],y::b,_,_,h=>absurd ((h.mem y).2 qcd) (by simp)
 | x::a,[],_,_,h=>absurd ((h.mem x).1 qcd) (by simp)
 | x::a,y::b,ha,hb,h=>by
  have hx:y.1≤x.1:=by
   rcases qbh.1 ((h.mem x).1 qcd) with e|e
   ·rw[e];exact qae _
   ·exact (qcp.1 hb).1 x e
  have hy:x.1≤y.1:=by
   rcases qbh.1 ((h.mem y).2 qcd) with e|e
   ·rw[e];exact qae _
   ·exact (qcp.1 ha).1 y e
  have he:x.1=y.1:=by omega
  have h1:=h x.1;rw[List.filter_cons_of_pos (by simp),List.filter_cons_of_pos (by simp[he])]at h1;have hxy:x=y:=(List.cons.inj h1).1;subst hxy;rw[qny a b (qcp.1 ha).2 (qcp.1 hb).2 λk=>?_];have h2:=h k;rw[List.filter_cons,List.filter_cons]at h2;split at h2
  ·exact (List.cons.inj h2).2
  ·exact h2
theorem qsn:∀(l p:List Coin),Sorted l→Stb (mrg l p) (l++p)
 | [],p,_=>by rw[qso,qb4];exact .refl _
 | x::l,[],_=>by rw[qe2,qbr];exact .refl _
 | x::l,y::p,hs=>by
  by_cases h:x.1≤y.1
  ·rw[qt9 h];exact Stb.append (.refl [x]) (qsn l (y::p) (qcp.1 hs).2)
  ·rw[qua h];have h1:Stb (y::mrg (x::l) p) ([y]++((x::l)++p)):=Stb.append (.refl [y]) (qsn (x::l) p hs);refine h1.trans ?_;rw[<-qas,show (x::l)++y::p=((x::l)++[y])++p from by simp];refine Stb.append (Stb.symm (Stb.swap λa ha b hb=>?_)) (.refl p);rw[qa2.1 hb];rcases qbh.1 ha with e|e
   ·rw[e];omega
   ·have:=(qcp.1 hs).1 a e;omega
termination_by l p=>l.length+p.length
theorem qvd {l p r:List Coin} (hl:Sorted l) (hp:Sorted p) (hr:Sorted r) (h:Stb r (l++p)):r=mrg l p:=
 qny _ _ hr (qia l p hl hp) (h.trans (qsn l p hl).symm)
end Go.Proofs.YtkmpfgpfbmeihaaGreatDoor.huf
namespace Go.Proofs.YtkmpfgpfbmeihaaGreatDoor.lib
open Go
section
variable {P : Program} {ops : Array Oper} {Q : Exit → Act → World → Prop} {md : Region.Mode}
def wpMe (P:Program) (md:Region.Mode) (ops:Array Oper) (Q:Exit→Act→World→Prop) (D:Nat→World→World→Prop):Nat→Array Bool→Act→World→Prop
 | 0,listed,a,w=>Region.ready md ops listed=[]∧Q .normal a w
 | f+1,listed,a,w=>(Region.ready md ops listed=[]→Q .normal a w)∧
  ∀i∈Region.ready md ops listed,wpOp P ops Q i (λa' w'=>D i w w'∧wpMe P md ops Q D f (listed.setIfInBounds i true) a' w') a w
theorem qlu {D:Nat→World→World→Prop}:∀(f:Nat) (listed:Array Bool) (a:Act) (w:World),wpMe P md ops Q D f listed a w→wpAny P md ops Q f listed a w
 | 0,_,_,_,h=>h
 | f+1,_,_,_,h=>⟨h.1,λi hi=>wpOp_mono (λa' w' h'=>qlu f _ a' w' h'.2) (h.2 i hi)⟩
theorem qh5 {i:Nat} {oi:Oper} {v:Value} {C:World→Prop} {D:Nat→World→World→Prop} (hi:ops[i]?=some oi) (hsel:∀(j:Nat) (o:Oper) cs b,ops[j]?=some o→o.op≠.select cs b)
  (hQ:∀c a d v w,Q (.panic c) (Act.put a d v) w→Q (.panic c) a w) (hDi:∀w,D i w w)
  (hT:∀listed,listed.getD i true=false→∀t∈Region.ready md ops listed,t≠i→∀w w',C w→D t w w'→C w') :
  ∀(f:Nat) (listed:Array Bool) (a:Act) (w:World),
   (∀j oj,ops[j]?=some oj→j≠i→listed.getD j true=false→(∀e∈oj.after,Region.binds md e=true→e.on≠i)→oi.apart ops oj=true)→
   i∈Region.ready md ops listed→QY P ops C oi v a→C w→
   wpMe P md ops Q D f (listed.setIfInBounds i true) (a.put oi.dst v) w→wpMe P md ops Q D (f+1) listed a w:=by
 intro f;induction f with
 | zero=>
  intro listed a w _ hr hy hC H;refine⟨λh=>(by rw[h]at hr;cases hr),λj hj=>?_⟩;by_cases hji:j=i
  ·subst hji;exact hy.op hi hC ⟨hDi w,H⟩
  ·have:=ready_mono hj hji;rw[H.1]at this;cases this
 | succ f ih=>
  intro listed a w hfree hr hy hC H;have hun:=(mem_ready.1 hr).1;refine⟨λh=>(by rw[h]at hr;cases hr),λj hj=>?_⟩;by_cases hji:j=i
  ·subst hji;exact hy.op hi hC ⟨hDi w,H⟩
  ·have h1:=H.2 j (ready_mono hj hji);obtain⟨hjun,oj,hoj,hall⟩:=mem_ready.1 hj;have hnot:∀e∈oj.after,Region.binds md e=true→e.on≠i:=λe he hb heq=>by have h1:=hall e he hb;rw[heq,getD_both hun]at h1;cases h1
   have h2:=qml hoj (hfree j oj hoj hji hjun hnot) (λcs b=>hsel i oi cs b hi) (λcs b=>hsel j oj cs b hoj) hQ hy h1;have hfree':∀k ok,ops[k]?=some ok→k≠i→(listed.setIfInBounds j true).getD k true=false→
     (∀e∈ok.after,Region.binds md e=true→e.on≠i)→oi.apart ops ok=true:=λk ok hk hki hkun hno=>by
    refine hfree k ok hk hki ?_ hno
    by_cases hjk:j=k
    ·subst hjk;exact hjun
    ·rw[getD_set_ne true hjk]at hkun;exact hkun
   refine wpOp_mono (λa' w' h3=>⟨h3.2.1,?_⟩) h2;refine ih (listed.setIfInBounds j true) a' w' hfree' (ready_mono hr (qdx hji)) h3.1 (hT listed hun j hj hji w w' hC h3.2.1) ?_;rw[Array.setIfInBounds_comm _ _ hji];exact h3.2.2
def DE (S:List Nat) (lates:List Nat) (j:Nat) (w w':World):Prop:=if lates.contains j=true then Fr S w w' else w'=w
def mixE (P:Program) (ops:Array Oper) (S:List Nat) (Q:Exit→Act→World→Prop):List (Nat×Oper)→Act→World→Prop
 | [],a,w=>Q .normal a w
 | (0,o)::rest,a,w=>if Region.wanted o (yielded ops a.tmps) then o.quiet P a (Sup S w) (λa'=>mixE P ops S Q rest a' w) else mixE P ops S Q rest (a.put o.dst undef) w
 | (1,o)::rest,a,w=>if Region.wanted o (yielded ops a.tmps) then o.quiet P a (λu=>u=w) (λa'=>mixE P ops S Q rest a' w) else mixE P ops S Q rest (a.put o.dst undef) w
 | (_+2,o)::rest,a,w=>if Region.wanted o (yielded ops a.tmps) then o.wp P a w (λa' w'=>Fr S w w'∧mixE P ops S Q rest a' w') Q else mixE P ops S Q rest (a.put o.dst undef) w
def waitsFor (md:Region.Mode) (ops:Array Oper) (t i:Nat):Bool:=match ops[t]? with
 | some o=>o.after.toList.any λe=>Region.binds md e&&decide (e.on=i)
 | none=>true
def quietB (md:Region.Mode) (ops:Array Oper) (lates:List Nat) (i:Nat) (listed:Array Bool):Bool:=
 (Region.ready md ops listed).contains i&&Region.free md ops listed i&&(match ops[i]? with|some o=>okKind o.op|none=>false)&&!lates.contains i
def mixEB (md:Region.Mode) (ops:Array Oper) (lates:List Nat):List (Nat×Nat)→Array Bool→Bool
 | [],listed=>decide (Region.ready md ops listed=[])
 | (0,i)::rest,listed=>quietB md ops lates i listed&&mixEB md ops lates rest (listed.setIfInBounds i true)
 | (1,i)::rest,listed=>quietB md ops lates i listed&&lates.all (λt=>waitsFor md ops t i)&&mixEB md ops lates rest (listed.setIfInBounds i true)
 | (_+2,i)::rest,listed=>decide (Region.ready md ops listed=[i])&&lates.contains i&&mixEB md ops lates rest (listed.setIfInBounds i true)
theorem qvu {i t:Nat} {listed:Array Bool} (h:waitsFor md ops t i=true) (hun:listed.getD i true=false) (ht:t∈Region.ready md ops listed):False:=by obtain⟨_,o,ho,hall⟩:=mem_ready.1 ht;simp only[waitsFor,ho,List.any_eq_true,qbj,decide_eq_true_eq]at h;obtain⟨e,he,hb,heq⟩:=h;have h1:=hall e (by simpa using he) hb;rw[heq,getD_both hun]at h1;cases h1
theorem zg7 {S lates:List Nat} {b:World} {t:Nat} {w w':World} (hC:Sup S b w) (h:DE S lates t w w'):Sup S b w':=by
 unfold DE at h;split at h
 ·exact Sup.of (hC.fr.trans h)
 ·rw[h];exact hC
theorem qix {S lates:List Nat} {l:List Oper} (hl:ops=l.toArray) (hsel:Region.noSelect ops=true) (hQ:∀c a d v w,Q (.panic c) (Act.put a d v) w→Q (.panic c) a w) :
  ∀(order:List (Nat×Nat)) (listed:Array Bool) (a:Act) (w:World),mixEB md ops lates order listed=true→
   mixE P ops S Q (order.map λx=>(x.1,l.getD x.2 default)) a w→wpMe P md ops Q (DE S lates) order.length listed a w
 | [],listed,a,w,hB,h=>by
  simp only[mixEB,decide_eq_true_eq]at hB;exact⟨hB,h⟩
 | (0,i)::rest,listed,a,w,hB,h=>by
  simp only[mixEB,quietB,qbj,Bool.not_eq_true']at hB;obtain⟨⟨⟨⟨hr,hf⟩,hk⟩,hlt⟩,hrest⟩:=hB;have hr':i∈Region.ready md ops listed:=by simpa using hr
  obtain⟨_,oi,hoi,_⟩:=mem_ready.1 hr';rw[hoi]at hk;have hd:l.getD i default=oi:=by rw[hl]at hoi;simp at hoi;simp[List.getD,hoi]
  simp only[qak,hd,mixE]at h;have hC:Sup S w w:=Sup.of (Fr.refl _ _);have hDi:∀w,DE S lates i w w:=λw=>by unfold DE;split;exact Fr.refl _ _;rfl
  have hT:∀listed:Array Bool,listed.getD i true=false→∀t∈Region.ready md ops listed,t≠i→∀w1 w',Sup S w w1→DE S lates t w1 w'→Sup S w w':=λ_ _ t _ _ w1 w' h1 h2=>zg7 h1 h2
  by_cases hw:Region.wanted oi (yielded ops a.tmps)=true
  ·rw[if_pos hw]at h;obtain⟨v,h1,h2⟩:=h;have hy:QY P ops (Sup S w) oi v a:=.inl ⟨hw,λu hu=>qey hk (h1 u hu)⟩;exact qh5 hoi (qdi hsel) hQ hDi hT _ listed a w (qeq hoi hf) hr' hy hC (qix hl hsel hQ rest _ _ w hrest h2)
  ·rw[if_neg hw]at h;have hy:QY P ops (Sup S w) oi undef a:=.inr ⟨by simpa using hw,rfl⟩;exact qh5 hoi (qdi hsel) hQ hDi hT _ listed a w (qeq hoi hf) hr' hy hC (qix hl hsel hQ rest _ _ w hrest h)
 | (1,i)::rest,listed,a,w,hB,h=>by
  simp only[mixEB,quietB,qbj,Bool.not_eq_true']at hB;obtain⟨⟨⟨⟨⟨hr,hf⟩,hk⟩,hlt⟩,hwait⟩,hrest⟩:=hB;have hr':i∈Region.ready md ops listed:=by simpa using hr
  obtain⟨_,oi,hoi,_⟩:=mem_ready.1 hr';rw[hoi]at hk;have hd:l.getD i default=oi:=by rw[hl]at hoi;simp at hoi;simp[List.getD,hoi]
  simp only[qak,hd,mixE]at h;have hDi:∀w,DE S lates i w w:=λw=>by unfold DE;split;exact Fr.refl _ _;rfl
  have hT:∀listed:Array Bool,listed.getD i true=false→∀t∈Region.ready md ops listed,t≠i→∀w1 w',w1=w→DE S lates t w1 w'→w'=w:=λls hun t ht _ w1 w' h1 h2=>by
   unfold DE at h2;split at h2
   ·rename_i hc;exact (qvu (qi5.1 hwait t (by simpa using hc)) hun ht).elim
   ·rw[h2,h1]
  by_cases hw:Region.wanted oi (yielded ops a.tmps)=true
  ·rw[if_pos hw]at h;obtain⟨v,h1,h2⟩:=h;have hy:QY P ops (λu=>u=w) oi v a:=.inl ⟨hw,λu hu=>qey hk (h1 u hu)⟩;exact qh5 hoi (qdi hsel) hQ hDi hT _ listed a w (qeq hoi hf) hr' hy rfl (qix hl hsel hQ rest _ _ w hrest h2)
  ·rw[if_neg hw]at h;have hy:QY P ops (λu=>u=w) oi undef a:=.inr ⟨by simpa using hw,rfl⟩;exact qh5 hoi (qdi hsel) hQ hDi hT _ listed a w (qeq hoi hf) hr' hy rfl (qix hl hsel hQ rest _ _ w hrest h)
 | (_+2,i)::rest,listed,a,w,hB,h=>by
  simp only[mixEB,qbj,decide_eq_true_eq]at hB;obtain⟨⟨he,hlt⟩,hrest⟩:=hB;have hr':i∈Region.ready md ops listed:=by rw[he];simp
  obtain⟨_,oi,hoi,_⟩:=mem_ready.1 hr';have hd:l.getD i default=oi:=by rw[hl]at hoi;simp at hoi;simp[List.getD,hoi]
  simp only[qak,hd,mixE]at h;refine⟨λh0=>(by rw[h0]at hr';cases hr'),λj hj=>?_⟩;rw[he]at hj;have hji:j=i:=by simpa using hj
  subst hji;unfold wpOp;simp only[hoi];by_cases hw:Region.wanted oi (yielded ops a.tmps)=true
  ·rw[if_pos hw]at h;rw[if_pos hw];left;exact Oper.wp_mono (λa' w' h'=>⟨by unfold DE;rw[if_pos hlt];exact h'.1,qix hl hsel hQ rest _ a' w' hrest h'.2⟩) h
  ·rw[if_neg hw]at h;rw[if_neg hw];exact⟨by unfold DE;rw[if_pos hlt];exact Fr.refl _ _,qix hl hsel hQ rest _ _ w hrest h⟩
theorem qf3 {id:Nat} {a:Act} {w:World} {l:List Oper} (order:List (Nat×Nat)) (S lates:List Nat) (hm:P.follows .mixedOrders=true)
  (hB:(Region.noSelect l.toArray&&decide (order.length=l.toArray.size)&&mixEB .any l.toArray lates order (Array.replicate l.toArray.size false))=true)
  (hQ:∀c a d v w,Q (.panic c) (Act.put a d v) w→Q (.panic c) a w)
  (h:mixE P l.toArray S Q (order.map λx=>(x.1,l.getD x.2 default)) a w.drew):(Code.region id l.toArray true).wp P Q a w:=by
 simp only[qbj,decide_eq_true_eq]at hB;obtain⟨⟨hsel,hlen⟩,hmix⟩:=hB;refine wp_region_any hm (qlu (D:=DE S lates) _ _ _ _ ?_);have:=qix (P:=P) (Q:=Q) (md:=.any) (S:=S) (lates:=lates) rfl hsel hQ order _ a w.drew hmix h;rw[hlen]at this;exact this
theorem qd3 {S:List Nat} {items:List (Nat×Oper)} {a:Act} {w:World} (k:Nat) (h0:((items.take k).all λx=>decide (x.1=1))=true)
  (h:wpQuiet P ops (λu=>u=w) (λa'=>mixE P ops S Q (items.drop k) a' w) ((items.take k).map (·.2)) a):mixE P ops S Q items a w:=by
 induction k generalizing items a with
 | zero=>exact h
 | succ k ih=>
  cases items with
  | nil=>exact h
  | cons x rest=>
   obtain⟨e,o⟩:=x;simp only[qah,List.all_cons,qbj,decide_eq_true_eq]at h0;obtain⟨rfl,h0⟩:=h0;simp only[qah,qak,qad,wpQuiet]at h;unfold mixE;by_cases hw:Region.wanted o (yielded ops a.tmps)=true
   ·rw[if_pos hw]at h ⊢;obtain⟨v,h1,h2⟩:=h;exact⟨v,h1,ih h0 h2⟩
   ·rw[if_neg hw]at h ⊢;exact ih h0 h
theorem qdc {S:List Nat} {items:List (Nat×Oper)} {a:Act} {w:World} (k:Nat) (h0:((items.take k).all λx=>decide (x.1=0))=true)
  (h:wpQuiet P ops (Sup S w) (λa'=>mixE P ops S Q (items.drop k) a' w) ((items.take k).map (·.2)) a):mixE P ops S Q items a w:=by
 induction k generalizing items a with
 | zero=>exact h
 | succ k ih=>
  cases items with
  | nil=>exact h
  | cons x rest=>
   obtain⟨e,o⟩:=x;simp only[qah,List.all_cons,qbj,decide_eq_true_eq]at h0;obtain⟨rfl,h0⟩:=h0;simp only[qah,qak,qad,wpQuiet]at h;unfold mixE;by_cases hw:Region.wanted o (yielded ops a.tmps)=true
   ·rw[if_pos hw]at h ⊢;obtain⟨v,h1,h2⟩:=h;exact⟨v,h1,ih h0 h2⟩
   ·rw[if_neg hw]at h ⊢;exact ih h0 h
theorem qff {S:List Nat} {rest:List (Nat×Oper)} {o:Oper} {a:Act} {w:World} (hw:Region.wanted o (yielded ops a.tmps)=true)
  (h:∀K:Act→World→Prop,Go.RowKit.Hid (∀a' w',Fr S w w'→mixE P ops S Q rest a' w'→K a' w')→o.wp P a w K Q):mixE P ops S Q ((2,o)::rest) a w:=by
 unfold mixE;rw[if_pos hw];exact h _ λ_ _ h1 h2=>⟨h1,h2⟩
theorem qjn {S:List Nat} {a:Act} {w:World} (h:Q .normal a w):mixE P ops S Q [] a w:=h
end
end Go.Proofs.YtkmpfgpfbmeihaaGreatDoor.lib
namespace Go.Proofs.YtkmpfgpfbmeihaaGreatDoor.huf
open Go Go.RowKit lib bm bl
structure Mc where
 worth:Nat
 ao:Option Addr
 len:Nat
 cap:Nat
def Dw (w:World) (g:Nat) (T:TypeId) (A0:Array Value) (n:Nat) (f:Nat→Mc):Prop:=
 ∃A:Array Value,w.heap[g]?=some (.cells A T (0,0))∧A.size=A0.size∧2*n≤A.size∧(∀j,2*n≤j→A[j]?=A0[j]?)∧
  ∀i,i<n→A[i*2]?=some (.int .i64 ((f i).worth:Nat))∧A[i*2+1]?=some (.slice (f i).ao (f i).len (f i).cap)
def swp (f:Nat→Mc) (x y:Nat):Nat→Mc:=λi=>if i=x then f y else if i=y then f x else f i
def swr (f:Nat→Mc) (a b:Nat):Nat→Nat→Mc
 | 0=>f
 | k+1=>swp (swr f a b k) (b+k) (a+k)
theorem Dw.swap {g:Nat} {T:TypeId} {A0 A:Array Value} {n x y:Nat} {f:Nat→Mc} (w2:World) (pw:Nat) (pa:Option Addr) (pl pc qw:Nat) (qa:Option Addr) (ql qc:Nat)
  (hs:A.size=A0.size) (hn:2*n≤A.size) (ht:∀j,2*n≤j→A[j]?=A0[j]?)
  (hf:∀i,i<n→A[i*2]?=some (.int .i64 ((f i).worth:Nat))∧A[i*2+1]?=some (.slice (f i).ao (f i).len (f i).cap))
  (hx:x<n) (hy:y<n) (hp:(⟨pw,pa,pl,pc⟩:Mc)=f x) (hq:(⟨qw,qa,ql,qc⟩:Mc)=f y)
  (h:w2.heap[g]?=some (.cells ((((A.setIfInBounds (x*2) (.int .i64 qw)).setIfInBounds (x*2+1) (.slice qa ql qc)).setIfInBounds (y*2) (.int .i64 pw)).setIfInBounds (y*2+1) (.slice pa pl pc)) T (0,0))) :
  Dw w2 g T A0 n (swp f y x):=by
 refine⟨_,h,by simp[hs],by simp;exact hn,λj hj=>?_,λi hi=>?_⟩
 ·rw[qaa (by omega),qaa (by omega),qaa (by omega),qaa (by omega)];exact ht j hj
 ·unfold swp;by_cases h1:i=y
  ·subst h1;rw[if_pos rfl,<-hp];refine⟨?_,?_⟩
   ·rw[qaa (by omega),qal (by simp;omega)]
   ·rw[qal (by simp;omega)]
  ·rw[if_neg h1];by_cases h2:i=x
   ·subst h2;rw[if_pos rfl,<-hq];refine⟨?_,?_⟩
    ·rw[qaa (by omega),qaa (by omega),qaa (by omega),qal (by omega)]
    ·rw[qaa (by omega),qaa (by omega),qal (by simp;omega)]
   ·rw[if_neg h2];refine⟨?_,?_⟩
    ·rw[qaa (by omega),qaa (by omega),qaa (by omega),qaa (by omega)];exact (hf i hi).1
    ·rw[qaa (by omega),qaa (by omega),qaa (by omega),qaa (by omega)];exact (hf i hi).2
theorem qj9 (g:Nat) (T:TypeId) (A0:Array Value) (L cap n a b:Nat) (f:Nat→Mc) (cmp:Value) (w:World)
  (h:Dw w g T A0 L f) (ha:a+n≤b) (hb:b+n≤L) (hL:L≤100000) :
  Calls Tryz.prog 223 #[.slice (some ⟨g,0,none⟩) L cap,.int .i64 a,.int .i64 b,.int .i64 n,cmp] w λe w'=>e = .returned (.tuple #[])∧Dw w' g T A0 L (swr f a b n)∧Fr [g] w w':=by
 have H:=zhd h;clear h;go_enter Tryz.func223,Tryz.ntmps223;go_wp2;go_loopg [10] n (λk s10 wr=>∃i:Nat,s10 = .int .i64 (i:Nat)∧i+k=n∧Dw wr g T A0 L (swr f a b i)∧Fr [g] w wr);case atStart=>exact⟨0,rfl,by omega,H.out,.refl _ w⟩
 case round=>
  obtain⟨i,rfl,hik,hD,hf⟩:=hrel;by_cases hi:i<n
  ·obtain⟨k,rfl⟩:∃k,gk=k+1:=⟨gk-1,by omega⟩;obtain⟨A,hA,hAs,hAn,hAt,hAf⟩:=hD;obtain⟨x,hx⟩:=zex (a+i);obtain⟨y,hy⟩:=zex (b+i);have X:=hAf x (by omega);have Y:=hAf y (by omega);obtain⟨p,hp⟩:=zex (swr f a b i x);obtain⟨q,hq⟩:=zex (swr f a b i y);rw[<-hp]at X;rw[<-hq]at Y;obtain⟨pw,pa,pl,pc⟩:=p;obtain⟨qw,qa,ql,qc⟩:=q;have d0:=(cell_of hA (x*2)).trans X.1;have d1:=(cell_of hA (x*2+1)).trans X.2;have d2:=(cell_of hA (y*2)).trans Y.1;have d3:=(cell_of hA (y*2+1)).trans Y.2;simp only at d0 d1 d2 d3;have e0:((a:Int)+(i:Int))=(x:Int):=by omega
   have e1:((b:Int)+(i:Int))=(y:Int):=by omega
   have g1:decide ((x:Int)<0)=false:=by simp
   have g2:decide ((L:Int)≤(x:Int))=false:=by simp;omega
   have g3:decide ((y:Int)<0)=false:=by simp
   have g4:decide ((L:Int)≤(y:Int))=false:=by simp;omega
   have hxl:x<L:=by omega
   have hyl:y<L:=by omega
   have HX:=zhd10 hA hAs hAn hAt hAf hf hp hq hx hy;clear hA hAs hAn hAt hAf hf hp hq X Y hx hy;go_upto_region 3 with fail;refine qf3 [(0,0),(0,1),(0,2),(0,3),(0,4),(0,5),(0,6),(0,7),(0,8),(0,9),(0,10),(0,11),(0,12),(1,13),(0,14),(0,15),(0,16),(0,17),(0,18),(1,19),(0,20),(2,21),(0,22),(2,23)] [g] [21,23] (by kernel_rfl) (by kernel_rfl) (λ_ _ d _ _ h=>by cases d<;>exact h) ?_;simp only[qak,qam,qaz,qa0];refine qdc 13 rfl ?_;simp only[qah,qan,qad,qaj,qak,qam];repeat (go_big_quiet_step (fail))
   refine wpQuiet_nil ?_;refine qd3 1 rfl ?_;simp only[qah,qan,qad,qaj,qak,qam];repeat (go_big_quiet_step (fail))
   refine wpQuiet_nil ?_;refine qdc 5 rfl ?_;simp only[qah,qan,qad,qaj,qak,qam];repeat (go_big_quiet_step (fail))
   refine wpQuiet_nil ?_;refine qd3 1 rfl ?_;simp only[qah,qan,qad,qaj,qak,qam];repeat (go_big_quiet_step (fail))
   refine wpQuiet_nil ?_;refine qdc 1 rfl ?_;simp only[qah,qan,qad,qaj,qak,qam];repeat (go_big_quiet_step (fail))
   refine wpQuiet_nil ?_;refine qff rfl ?_;intro K hK;have z0:=qau HX.out.1 (x*2);have z1:=qau HX.out.1 (x*2+1);go_wp2;refine hK.out _ _ (Fr.from_drew ((((Fr.refl [g] wr).setCell (by simp) _).setCell (by simp) _).drew)) ?_;clear hK K z0 z1;obtain⟨w1,hw1⟩:∃w1,w1=((wr.setCell ⟨g,x*2,none⟩ (.int .i64 (qw:Nat))).setCell ⟨g,x*2+1,none⟩ (.slice qa ql qc)):=⟨_,rfl⟩;rw[<-hw1];have hA1:=qax (o:=x*2+1) (qax (o:=x*2) HX.out.1 (.int .i64 qw)) (.slice qa ql qc);rw[<-hw1]at hA1;obtain⟨A1,hB⟩:∃A1,A1=(A.setIfInBounds (x*2) (.int .i64 (qw:Nat))).setIfInBounds (x*2+1) (.slice qa ql qc):=⟨_,rfl⟩;rw[<-hB]at hA1;have z0:=qau hA1 (y*2);have z1:=qau hA1 (y*2+1);have hxy:x<y:=by have:=HX.out.2.2.2.2.2.2.2.2;omega
   have c2:w1.cell? ⟨g,y*2,none⟩=some (.int .i64 qw):=by rw[cell_of hA1,hB,qaa (by omega),qaa (by omega),<-cell_of HX.out.1];exact d2
   have c3:w1.cell? ⟨g,y*2+1,none⟩=some (.slice qa ql qc):=by rw[cell_of hA1,hB,qaa (by omega),qaa (by omega),<-cell_of HX.out.1];exact d3
   have HY:=zhd3 hA1 hB hw1;clear hA1 hB hw1 d0 d1 d2 d3;refine qdc 1 rfl ?_;simp only[qah,qan,qad,qaj,qak,qam];repeat (go_big_quiet_step (fail))
   refine wpQuiet_nil ?_;refine qff rfl ?_;intro K hK;go_wp2;refine hK.out _ _ (Fr.from_drew ((((Fr.refl [g] w1).setCell (by simp) _).setCell (by simp) _).drew)) ?_;clear hK K z0 z1 c2 c3;refine qjn ?_;go_wp2;go_roundg k;case measure=>omega
   case rel=>
    obtain⟨hA,hAs,hAn,hAt,hAf,hf,hp,hq,hx,hy⟩:=HX.out;obtain⟨hA1,hB,hw1⟩:=HY.out;have hA2:=qax (o:=y*2+1) (qax (o:=y*2) hA1 (.int .i64 pw)) (.slice pa pl pc);rw[hB]at hA2;obtain⟨w2,hw2⟩:∃w2,w2=((w1.setCell ⟨g,y*2,none⟩ (.int .i64 (pw:Nat))).setCell ⟨g,y*2+1,none⟩ (.slice pa pl pc)):=⟨_,rfl⟩;rw[<-hw2]at hA2 ⊢;refine⟨i+1,by go_num,by omega,?_,?_⟩
    ·rw[swr,<-hx,<-hy];exact Dw.swap _ pw pa pl pc qw qa ql qc hAs hAn hAt hAf hxl hyl hp hq hA2
    ·rw[hw2,hw1];exact ((((hf.setCell (by simp) _).setCell (by simp) _).setCell (by simp) _).setCell (by simp) _).drew
  ·obtain rfl:i=n:=by omega
   have HI:=zhd2 hD hf;clear hD hf;go_wp2;(try simp only[Exit.inBlock,Exit.then]);refine bodyPost_end (results_none rfl _ _ _) rfl ?_;exact⟨rfl,HI.o0,HI.l1⟩
end Go.Proofs.YtkmpfgpfbmeihaaGreatDoor.huf
