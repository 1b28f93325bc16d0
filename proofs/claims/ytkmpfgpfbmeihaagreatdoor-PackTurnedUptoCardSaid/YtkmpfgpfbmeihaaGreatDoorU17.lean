/-
  Texts of this proof, one behind the other: PackBack, PackWr0, PackRd0, PkRead.
-/
import Derived.Test.YtkmpfgpfbmeihaaGreatDoorU16
import Derived.Lib.SlBytesConst
set_option maxHeartbeats 16000000
set_option maxRecDepth 100000
set_option linter.unusedVariables false
set_option linter.unusedSimpArgs false
namespace Go.Proofs.YtkmpfgpfbmeihaaGreatDoor
namespace pk
open Go Go.RowKit lib bm
theorem L6 (ao:Option Addr) (len cap:Nat) (w:World) (hle:len<=cap) (dv:cap<=maxLen) :
  Calls Tryz.prog 29 #[.slice ao len cap] w λe w'=>e = .returned (.slice ao len len)/\w'=w:=by
 go_enter Tryz.func29,Tryz.ntmps29;go_wp2;all_goals go_ret
 all_goals exact⟨by first|rfl|simp,rfl⟩
theorem zb9 {f m:Nat} (h:0<m) (hf:m<=f):uf f m=UInt8.ofNat ((m-1)%128+128)::uf f ((m-1)/128):=by
 cases f with
 | zero=>omega
 | succ f=>rw[uf,if_neg (by omega),zca (f:=f) (g:=f+1) (by omega) (by omega)]
theorem zb8 (f:Nat):uf f 0=[]:=by cases f<;>simp[uf]
theorem qyg {l:List UInt8} {C:Array Value} {k:Nat} (hk:k<l.length) (h:C.toList.take l.length=l.map bv):C[k]?=some (.int .u8 ((l[k]?.getD 0).toNat:Nat)):=by have h1:=congrArg (λ(x:List Value)=>x[k]?) h;simp only[oY,if_pos hk,j5]at h1;rw[bO hk]at h1;simp only[CA,bv]at h1;rw[bO hk,Option.getD_some,<-h1];simp
theorem zdt (w:World) (v:Value):(w.alloc (.cells #[v] 5)).ownsRow 0 5 1 (.slice (some ⟨w.heap.size,0,none⟩) 1 1) 1 [v]:=
 ⟨rfl,.inr ⟨w.heap.size,1,#[v],rfl,dZ _,bx _ _,aw _,by decide,rfl,rfl⟩⟩
theorem quf (n:Nat) (w:World) (hn:n<=9007199254740992):Calls Tryz.prog 9 #[.int .i64 n] w (aD w (bk n).reverse):=by
 obtain⟨bs,oD⟩:=ah (bk n);have bK:bs.length<=10:=by rw[oD];have:=Ud (k:=9) (f:=n) (m:=n/128) (by omega);unfold bk;simp only[cQ];omega
 have h7:=Im n;obtain⟨t0,WT⟩:∃t,t=n%128:=⟨_,rfl⟩;have ht1:t0<=127:=by omega
 rw[<-WT]at h7;obtain⟨x0,gM⟩:∃x,x=UInt8.ofNat t0:=⟨_,rfl⟩;have yg:bs=[x0]++uf n (n/128):=by rw[oD,gM,WT];rfl
 have uM:[bv x0]=[.int .u8 (t0:Int)]:=by unfold bv;rw[gM,KJ (by omega)]
 have ow0:=zdt w (.int .u8 (t0:Int));rw[<-oD];have HB:=aF yg bK uM ow0;clear yg bK gM oD WT uM ow0;go_enter Tryz.func9,Tryz.ntmps9;go_upto_region 2 with (refine Fy (n:Int) rfl _ _ _ rfl (n:Int) 0 rfl rfl (by split<;>omega) ?_);go_upto_block 0 with fail;clear h7;go_cut [3] from 14 to 25 (λs3 wz=>∃a cap,s3 = .slice a bs.length cap/\Wr w wz a cap bs)
 case first=>
  go_wp2;go_loopg [0,3] n (λk s0 s3 wr=>∃m a cap out,s0 = .int .i64 (m:Nat)/\s3 = .slice a out.length cap/\m<=k/\m<=n/\Wr w wr a cap out/\bs=out++uf n m);case atStart=>exact⟨n/128,some ⟨w.heap.size,0,none⟩,1,[x0],by go_num,rfl,by omega,by omega,⟨by simp only[cQ,lK,gW,oJ,HB.o2];exact HB.l3,(Fr.refl _ _).alloc _,by simp[ae]⟩,HB.o0⟩
  case round=>
   obtain⟨m,a,cap,out,rfl,rfl,x5,Xp,h,aE⟩:=hrel;have H:=ak h aE;have gD:out.length<=10:=by have:=congrArg List.length aE;rw[aK]at this;have:=HB.o1;omega
   clear h aE;by_cases h0:0<m
   ·obtain⟨p,rfl⟩:∃p,m=p+1:=⟨m-1,by omega⟩;have h7:=Im p;obtain⟨t,ht⟩:=ah (p%128);have ht1:t<=127:=by omega
    rw[<-ht]at h7;have ho:=qxa t ht1;obtain⟨x,hx⟩:=ah (UInt8.ofNat (t+128));rw[<-hx]at ho;obtain⟨S,hS⟩:=ah (ae a);have HX:=au hx hS ht;have f0:Fr [] wr (wr.alloc (.cells #[.int .u8 (x.toNat:Nat)] 5)):=(Fr.refl [] wr).alloc _;have cT:=dr H.o0.own f0 (by simp);have cA:Cs (wr.alloc (.cells #[.int .u8 (x.toNat:Nat)] 5)) (some ⟨wr.heap.size,0,none⟩) [bv x]:=ny _ _ _ 5 (bx wr _);have HA:=au cT cA f0;clear cT cA f0 hx hS ht;go_wp2_with (refine iq aq rfl _ _ rfl (.slice a out.length cap) out.length (out.map bv) S rfl (by rw[dw,HX.o1]) HA.o0 (some ⟨wr.heap.size,0,none⟩) 1 1 [bv x] rfl (by decide) (by simp) HA.o1 (by rfl) (jQ [x]) (by omega) (by unfold maxLen;omega) ?_;intro a2 c2 w2 A1;have xv:=af A1;clear A1);go_roundg (p/128);case measure=>omega
    case rel=>have A1:=xv.out;rw[HX.o1]at A1;refine⟨p/128,a2,c2,out++[x],by go_num,by rw[aK];rfl,aw _,by omega,H.o0.step HA.l2 A1,?_⟩;rw[H.l1,zb9 h0 Xp,CI,<-HX.l2,HX.o0,gH];rfl
   ·go_wp2;go_meet;obtain rfl:m=0:=by omega
    have he:bs=out:=by rw[H.l1,zb8,nF]
    exact⟨a,cap,by rw[he],by rw[he];exact H.o0⟩
 case rest=>
 obtain⟨a,cap,rfl,h⟩:=hcut;have fx:1<=bs.length:=by rw[HB.o0];simp
 have Yl:=HB.o1;obtain⟨o1,o2⟩:=h.own;have o3:=o2.resolve_left (λhh=>by omega);obtain⟨g,cp,cur,e1,e2,e3,e4,e5,e6,e7⟩:=o3;simp only[lN]at e1;obtain⟨rfl,_,rfl⟩:=e1;have wJ:=zdi g bs.length cap cur bs wc e3 rfl fx (by omega) e4 (λk hk=>qyg hk (by rw[<-e7,qV]));obtain⟨N,hN⟩:=ah bs.length;rw[<-hN]at wJ fx Yl e4 ⊢;have H:=aP h.fr (h.new g (by simp[ae])) hN wJ (lt_of_block e3);clear h o1 o2 e2 e3 e6 e7 wJ hN;go_wp2_with (first
  | (go_at_call 28;refine H.l1.2.2.1.mono ?_;rintro e w1 ⟨rfl,f1,A',q1,q2,q3⟩;have H1:=au f1 q1 q3;clear f1 q1 q2 q3)
  | (go_at_call 29;refine (L6 _ N cap _ e4 e5).mono ?_;rintro e w2 ⟨rfl,hw⟩;obtain rfl:=hw.symm))
 go_ret;have hf:Fr [] w w1:=H.o0.step H1.o0 (λy hy=>.inr (by simp only[iQ]at hy;rw[hy];exact H.l1.1));have hl:bs.reverse.length=N:=by rw[Kw,H.l1.2.1]
 refine⟨some ⟨g,0,none⟩,by rw[hl];rfl,⟨.inr ⟨g,0,rfl,λj u hj=>?_⟩,by rw[hl];exact aw _,by rw[hl];omega,λe=>by cases e⟩,λy hy=>?_,hf⟩
 ·rw[j5]at hj;have kT:j<bs.reverse.length:=by
   rcases og j bs.reverse.length with h|h
   ·exact h
   ·rw[wg h]at hj;cases hj
  have:=H1.l2 j (by omega);rw[fM,cell_of H1.o1,this];rw[bO kT]at hj ⊢;exact hj
 ·simp only[ae,iQ]at hy;rw[hy];exact⟨H.l1.1,lt_of_block H1.o1⟩
theorem ZV {w:World} {xs:List Value} (n:Nat) (hn:xs.length=n) (hm:n<=1000):(w.alloc (.cells xs.toArray 5)).ownsRow 0 5 1 (.slice (some ⟨w.heap.size,0,none⟩) n n) n xs:=
 ⟨by omega,.inr ⟨w.heap.size,n,xs.toArray,rfl,dZ _,bx _ _,aw _,by unfold maxLen;omega,by simp[hn],by rw[qV,<-hn];simp⟩⟩
theorem qvz (w:World):Calls Tryz.prog 15 #[.slice none 0 0,.slice none 0 0] w (aD w (bh++sha.dY bh)):=by
 have lf:=λw'=>run_makeMap (P:=Tryz.prog) 75 w'
 have hcv:∀w':World,(convert 23 23 (.slice (some ⟨w'.heap.size,0,none⟩) 8 8)).run Tryz.prog (w'.alloc (.cells #[.int .u8 80,.int .u8 65,.int .u8 67,.int .u8 75,.int .u8 0,.int .u8 0,.int .u8 0,.int .u8 2] 5)) = .ok (.slice (some ⟨w'.heap.size,0,none⟩) 8 8) (w'.alloc (.cells #[.int .u8 80,.int .u8 65,.int .u8 67,.int .u8 75,.int .u8 0,.int .u8 0,.int .u8 0,.int .u8 2] 5 (8,9))):=λw'=>Lib.run_convert_bytes_const (P:=Tryz.prog) w' 23 5 #[.int .u8 80,.int .u8 65,.int .u8 67,.int .u8 75,.int .u8 0,.int .u8 0,.int .u8 0,.int .u8 2] 8 8 Tryz.underlying23 Tryz.underlying5
 go_enter Tryz.func15,Tryz.ntmps15;go_upto_region 3 with (first
  | (go_at_call 31;refine (Vj _).mono ?_;rintro e w1 ⟨rfl,hw⟩;obtain rfl:=hw.symm)
  | (go_at_call 17;refine (qw9 _).mono ?_;rintro e w1 ⟨rfl,f1⟩))
 obtain⟨P,w2,hP,bq,f2,q2⟩:∃P w2,P=w1.heap.size/\w2=w1.alloc (.cells #[.slice none 0 0,.slice none 0 0,.slice none 0 0,.slice none 0 0] 74)/\Fr [] w w2/\w2.heap[P]?=some (.cells #[.slice none 0 0,.slice none 0 0,.slice none 0 0,.slice none 0 0] 74 (0,0)):=⟨_,_,rfl,rfl,f1.alloc _,bx w1 _⟩;have Yz:w.heap.size<=P:=by rw[hP];exact f1.size
 have BJ:P<w2.heap.size:=lt_of_block q2;rw[<-bq,<-hP];clear bq hP f1;obtain⟨B,hB⟩:=ah w2.heap.size;have c8:Cs ((w2.alloc (.cells #[.int .u8 80,.int .u8 65,.int .u8 67,.int .u8 75,.int .u8 0,.int .u8 0,.int .u8 0,.int .u8 2] 5 (8,9))).alloc (.cells #[.int .u8 0,.int .u8 0,.int .u8 0,.int .u8 0] 5)) (some ⟨w2.heap.size,0,none⟩) [.int .u8 80,.int .u8 65,.int .u8 67,.int .u8 75,.int .u8 0,.int .u8 0,.int .u8 0,.int .u8 2]:=by have:=pJ (.cells #[.int .u8 0,.int .u8 0,.int .u8 0,.int .u8 0] 5) (bx w2 (.cells #[.int .u8 80,.int .u8 65,.int .u8 67,.int .u8 75,.int .u8 0,.int .u8 0,.int .u8 0,.int .u8 2] 5 (8,9)));exact .inr ⟨w2.heap.size,0,rfl,λj u hj=>by rw[cell_of this];simpa using hj⟩
 have c4:Cs ((w2.alloc (.cells #[.int .u8 80,.int .u8 65,.int .u8 67,.int .u8 75,.int .u8 0,.int .u8 0,.int .u8 0,.int .u8 2] 5 (8,9))).alloc (.cells #[.int .u8 0,.int .u8 0,.int .u8 0,.int .u8 0] 5)) (some ⟨w2.heap.size+1,0,none⟩) [.int .u8 0,.int .u8 0,.int .u8 0,.int .u8 0]:=by have:=bx (w2.alloc (.cells #[.int .u8 80,.int .u8 65,.int .u8 67,.int .u8 75,.int .u8 0,.int .u8 0,.int .u8 0,.int .u8 2] 5 (8,9))) (.cells #[.int .u8 0,.int .u8 0,.int .u8 0,.int .u8 0] 5);rw[eZ]at this;exact .inr ⟨w2.heap.size+1,0,rfl,λj u hj=>by rw[cell_of this];simpa using hj⟩
 have fa:=((Fr.refl [] w2).alloc (.cells #[.int .u8 80,.int .u8 65,.int .u8 67,.int .u8 75,.int .u8 0,.int .u8 0,.int .u8 0,.int .u8 2] 5 (8,9))).alloc (.cells #[.int .u8 0,.int .u8 0,.int .u8 0,.int .u8 0] 5);have HO:=aP c8 c4 (fa.ae q2 (by simp)) (f2.trans fa) hB;clear c8 c4 fa f2 q2 hB;go_upto_region 4 with (at_builtin;refine Wo aq rfl _ _ rfl (some ⟨w2.heap.size,0,none⟩) 8 8 [.int .u8 80,.int .u8 65,.int .u8 67,.int .u8 75,.int .u8 0,.int .u8 0,.int .u8 0,.int .u8 2] rfl HO.o0 rfl (by decide) (by simp) (some ⟨w2.heap.size+1,0,none⟩) 4 4 [.int .u8 0,.int .u8 0,.int .u8 0,.int .u8 0] rfl HO.o1 rfl (by decide) (by decide) (by decide) ?_;intro c3 w3 A3;have q3:=A3.fr.ae HO.o2 (by simp);have cc:=cell_of q3 0;have zz:=aO q3 0;simp only[bw,aV]at cc;have HA:=ak A3 q3;clear A3 q3);clear cc zz;obtain⟨G,hG⟩:=ah (w2.heap.size+1+1);obtain⟨w4,ft⟩:=ah (w3.setCell ⟨P,0,none⟩ (.slice (some ⟨w2.heap.size+1+1,0,none⟩) 12 c3));rw[<-ft,<-hG];have q4:w4.heap[P]?=some (.cells #[.slice (some ⟨G,0,none⟩) 12 c3,.slice none 0 0,.slice none 0 0,.slice none 0 0] 74 (0,0)):=by rw[ft,hG];exact aX HA.l1 _
 have f34:Fr [P] w3 w4:=by rw[ft];exact (Fr.refl [P] w3).setCell (by simp) _
 have f4:Fr [] w w4:=(HO.o3.trans HA.o0.fr).step f34 (λy hy=>.inr (by simp only[iQ]at hy;omega));have AK:w4.ownsRow 0 5 1 (.slice (some ⟨G,0,none⟩) 12 c3) 12 (bh.map bv):=by
  have h1:=HA.o0.own;rw[eZ,eZ,<-hG]at h1;exact dr h1 f34 (λk hk=>by
   simp only[Value.ownBlock,eS]at hk
   simp only[iQ]
   omega)
 have hGw:w.heap.size<=G:=by have:=f4.size;omega
 have hPG:P≠G:=by omega
 have vR:12<=c3/\c3<=maxLen:=⟨HA.o0.le,HA.o0.max⟩;unfold maxLen at vR;have H4:=aP q4 f4 AK hGw hPG;clear q4 f34 f4 AK hGw ft hG HO HA hcv hPG;go_upto_region 5 with fail;obtain⟨M,hM⟩:=ah w4.heap.size;obtain⟨w5,mR⟩:=ah ((w4.alloc (.map #[] 0)).alloc (.cells #[.map (some w4.heap.size)] 75));have f5:Fr [] w4 w5:=by rw[mR];exact ((Fr.refl [] w4).alloc _).alloc _
 rw[<-mR];have q5:=f5.ae H4.o0 (by simp);have e1:w5.cell? ⟨P,1,none⟩=some (.slice none 0 0):=by rw[cell_of q5];rfl
 have H5:=af f5;clear f5 mR q5 hM M lf;go_wp2;go_loopg [46] 0 (λk s46 wr=>s46 = .int .i64 0/\Fr [] w5 wr);case atStart=>exact⟨rfl,Fr.refl _ _⟩
 case round=>
 obtain⟨rfl,hf⟩:=hrel;have PX:=hf.cell e1 (by simp);obtain⟨w6,pg⟩:=ah wr;have H6:=af hf;clear hf e1;go_wp2_with (first
  | (go_at_call 31;refine (Vj _).mono ?_;rintro e w1 ⟨rfl,hw⟩;obtain rfl:=hw.symm)
  | (go_at_call 32;refine (VF _ _).mono ?_;rintro e w1 ⟨rfl,hw⟩;obtain rfl:=hw.symm))
 go_loopg [63] 0 (λk s63 wq=>s63 = .int .i64 0/\wq=wr);case atStart=>exact⟨rfl,rfl⟩
 case round=>
 obtain⟨rfl,rfl⟩:=hrel;clear pg w6 PX;have f6:Fr [] w4 wr:=H5.out.trans H6.out;have Ih:=dr H4.o2 (f6.trans (Fr.av [] wr)) (by simp);have hP:=(f6.trans (Fr.av [] wr)).ae H4.o0 (by simp);have q0:∀x,(sup [G] wr.drew x).cell? ⟨P,0,none⟩=some (.slice (some ⟨G,0,none⟩) 12 c3):=λx=>(dk [G] wr.drew x).cell (by rw[cell_of hP];rfl) (by simpa using H4.l4)
 obtain⟨r6,_⟩:=wh Ih;have lT:=sha.Rl (some ⟨G,0,none⟩) c3 bh wr.drew r6 (by decide);have H7:=au f6 Ih lT;clear f6 Ih lT r6 hP;go_upto_region 16 with fail;refine jh 11 [(false,0),(false,1),(false,2),(false,3),(false,4),(false,5),(false,6),(false,7),(true,8),(true,9),(true,10)] [G] (by kernel_rfl) (by kernel_rfl) (λ_ _ d _ _ h=>by cases d<;>exact h) ?_;simp only[iw];refine cS 8 rfl ?_;simp only[aU];repeat (go_big_quiet_step (fail))
 refine wpQuiet_nil ?_;clear q0;refine ep rfl ?_;intro X hX;go_wp2_with (go_at_call 35;refine H7.l2.mono ?_;rintro e w7 ⟨⟨a7,c7,rfl,r7⟩,f7⟩);refine hX.out _ _ (f7.mono (by simp)) ?_;clear hX X;have HS:=ak r7 f7;clear r7 f7;have MX:=dr H7.o1 HS.l1 (by simp);have Zh:=HS.o0.le;rw[sha.sf]at Zh;refine ep rfl ?_;intro X hX;refine uv aq _ _ rfl (.slice (some ⟨G,0,none⟩) 12 c3) 12 (bh.map bv) [G] rfl rfl MX a7 20 c7 ((sha.dY bh).map bv) rfl Zh HS.o0.nil HS.o0.cs (by rw[cN];rfl) (jQ _) (by omega) (by unfold maxLen;omega) ?_;intro a8 c8 w8 A8;refine hX.out _ _ A8.fr ?_;clear hX X;refine ep rfl ?_;intro X hX;go_wp2_with (go_at_call 29;refine (L6 a8 32 c8 _ A8.le A8.max).mono ?_;rintro e w9 ⟨rfl,hw⟩;obtain rfl:=hw.symm);refine hX.out _ _ (Fr.refl _ _) ?_;clear hX X;refine fE ?_;have H8:=af A8;clear A8 MX Zh;go_wp2;go_ret;have o8:=H8.out.own;rw[<-gB]at o8;obtain⟨r8,_⟩:=wh o8;have f47:Fr [] w w7:=H4.o1.trans (H7.o0.trans ((Fr.av [] wr).trans HS.l1));refine⟨a8,rfl,⟨r8.cs,aw _,by decide,λe=>by have:=r8.nil e;have:=r8.le;rw[aK,sha.sf]at this;simp[bh]at this;omega⟩,λx hx=>⟨?_,qR o8 (pI hx)⟩,f47.step H8.out.fr (λy hy=>.inr (by simp only[iQ]at hy;rw[hy];exact H4.o3))⟩;rcases H8.out.at_ x hx with h|h
 ·simp only[iQ]at h;rw[h];exact H4.o3
 ·rw[h];exact f47.size
theorem zb2 (w:World):Calls Tryz.prog 45 #[.slice none 0 0] w λe w'=>e = .returned (.slice none 0 0)/\w'=w:=by go_enter Tryz.func45,Tryz.ntmps45;go_wp2;go_ret;exact⟨rfl,rfl⟩
theorem qru (w:World):(Instr.slice 9 (.string ⟨#[80,65,67,75,0,0,0,2]⟩) none (some (.int .i64 8)) none).run Tryz.prog w = .ok (.string ⟨#[80,65,67,75,0,0,0,2]⟩) w:=by kernel_rfl
theorem zai (a:Option Addr) (w:World) (h:lib.Rd w a 32 (bh++sha.dY bh)) (tA:∀x∈ae a,x<w.heap.size) :
  Calls Tryz.prog 18 #[.slice a 32 32] w λe w'=>(∃s:ByteArray,s.size=40/\e = .returned (.tuple #[.slice none 0 0,.string s,.int .i64 0]))/\Fr [] w w':=by
 have hlen:(bh++sha.dY bh).length=32:=by rw[aK,sha.sf];rfl
 obtain⟨bs,oD⟩:=ah (bh++sha.dY bh);have e8:bs.take 8=[80,65,67,75,0,0,0,2]:=by rw[oD];rfl
 have e12:bs.take 12=bh:=by rw[oD];rfl
 have e84:(bs.drop 8).take 4=[0,0,0,0]:=by rw[oD];rfl
 have e20:(bs.drop 12).take 20=sha.dY bh:=by rw[oD];exact oI (Nat.le_of_eq (sha.sf _))
 rw[<-oD]at h hlen;clear oD;obtain⟨g,o,rfl,_⟩:=h.cs.at (by rw[cN,hlen];decide);have r8:=h.take 8;rw[e8]at r8;have cv8:∀x c,(convert 23 9 (.slice (some ⟨g,o,none⟩) 8 c)).run Tryz.prog (w.drewN x) = .ok (.string ⟨#[80,65,67,75,0,0,0,2]⟩) (w.drewN x):=λx c=>yK (w.drewN x) Tryz.underlying23 Tryz.underlying5 Tryz.underlying9 rfl (r8.cs.fr (Fr.drewN [] w x) (by simp)) c
 have hs8:=λw'=>lib.FA aq 8 (some ⟨g,o,none⟩) 32 32 8 rfl (by decide) w'
 have kR:=qru;have HH:=bJ h hlen (tA g (by simp[ae])) e12 e84 e20;clear h hlen tA e8 e12 e84 e20 r8;go_enter Tryz.func18,Tryz.ntmps18;go_upto_region 4 with fail;go_quiet (fail);go_upto_region 7 with fail;obtain⟨R,w2,hR,bq,f2,q2⟩:∃R w2,R=w.heap.size/\w2=(w.drewN nq).alloc (.cells #[.slice (some ⟨g,o,none⟩) 32 32,.int .i64 8] 85)/\Fr [] w w2/\w2.heap[R]?=some (.cells #[.slice (some ⟨g,o,none⟩) 32 32,.int .i64 8] 85 (0,0)):=⟨_,_,rfl,rfl,(Fr.drewN [] w nq).alloc _,bx (w.drewN nq) _⟩;rw[<-bq,<-hR];have rM:g≠R:=by have:=HH.o2;omega
 have Dk:qH w2 R (some ⟨g,o,none⟩) 32 bs 8:=⟨by rw[HH.o1];exact q2,HH.o0.fr f2,by rw[HH.o1];decide,λ_ x hx=>by simp only[ae,iQ]at hx;rw[hx];exact rM⟩;have ht:=Cv R (some ⟨g,o,none⟩) 32 bs 8 4 w2 Dk (by rw[HH.o1];decide) (by rw[HH.o1];decide);have c8:cutAt (some ⟨g,o,none⟩) 32 8=some ⟨g,o+8,none⟩:=by unfold cutAt;simp[Aj]
 rw[c8]at ht;have H2:=aF f2 ht rM hR;clear bq hR f2 q2 Dk ht rM c8 cv8 hs8 kR;go_upto_region 8 with (go_at_call 43;refine H2.o1.mono ?_;rintro e w3 ⟨rfl,rX,f3⟩);have PR:Fr [] w w3:=H2.o0.step f3 (λy hy=>.inr (by simp only[iQ]at hy;rw[hy,H2.l3];exact aw _));have rz:=rX.rd.mid 8 4 (by rw[HH.o1];decide);rw[HH.o4,show cutAt (some ⟨g,o,none⟩) 32 8=some ⟨g,o+8,none⟩ by unfold cutAt;simp[Aj]]at rz;have z:∀i,i<4->w3.cell? ⟨g,o+8+i,none⟩=some (.int .u8 0):=λi hi=>by
  obtain⟨g',o',e,hc⟩:=rz.at (i:=i) (by simpa using hi);cases e;rw[hc];match i,hi with
  | 0,_=>rfl
  | 1,_=>rfl
  | 2,_=>rfl
  | 3,_=>rfl
 have z0:=z 0 (by decide);rw[jS]at z0;have z1:=z 1 (by decide);have z2:=z 2 (by decide);have z3:=z 3 (by decide);have ob:bits .or .i64 0 0=0:=by decide
 have H3:=ak rX PR;clear rX f3 PR rz z;go_upto_region 10 with fail;go_quiet (fail);clear z0 z1 z2 z3 ob;obtain⟨w4,ft⟩:=ah (w3.drewN nq);rw[<-ft];have f4:Fr [] w3 w4:=by rw[ft];exact Fr.drewN [] w3 nq
 have mA:=H3.o0.fr f4;have c1:w4.cell? ⟨R,1,none⟩=some (.int .i64 12):=by rw[cell_of mA.box];rfl
 have TP:=mA.rd.take 12;rw[HH.o3]at TP;have lT:=sha.Rl (some ⟨g,o,none⟩) 32 bh w4 TP (by decide);have zd:=λw'=>lib.FA aq 12 (some ⟨g,o,none⟩) 32 32 12 rfl (by decide) w'
 have H4:=au mA (H3.l1.trans f4) lT;clear mA f4 ft TP lT;go_wp2;go_loopg [2,66] 0 (λk s2 s66 wr=>s2 = .slice none 0 0/\s66 = .int .i64 0/\wr=w4);case atStart=>exact⟨rfl,rfl,rfl⟩
 case round=>
 obtain⟨rfl,rfl,rfl⟩:=hrel;go_upto_region 21 with (go_at_call 35;refine H4.l2.mono ?_;rintro e w5 ⟨⟨a5,c5,rfl,r5⟩,f5⟩);have tR:=H4.o0.fr f5;have ht:=Cv R (some ⟨g,o,none⟩) 32 bs 12 20 w5 tR (by rw[HH.o1];decide) (by rw[HH.o1];decide);have LC:cutAt (some ⟨g,o,none⟩) 32 12=some ⟨g,o+12,none⟩:=by unfold cutAt;simp[Aj]
 rw[LC]at ht;have fu:R∉ae a5:=by
  obtain⟨g5,o5,rfl,CY⟩:=r5.cs.at (by rw[cN,sha.sf];decide);simp only[ae,iQ];rintro rfl;obtain⟨x,t,hx⟩:∃x t,sha.dY bh=x::t:=by
   cases hh:sha.dY bh with
   | nil=>have:=congrArg List.length hh;rw[sha.sf]at this;cases this
   | cons x t=>exact⟨x,t,rfl⟩
  have h0:=CY 0 (bv x) (by rw[hx];rfl);rw[cell_of tR.box]at h0;match o5,h0 with
  | 0,h0=>simp[bv]at h0
  | 1,h0=>simp[bv]at h0
  | n+2,h0=>simp at h0
 have H5:=aF r5 f5 ht fu;clear r5 f5 tR ht LC zd c1 fu;go_upto_region 22 with (go_at_call 43;refine H5.o2.mono ?_;rintro e w6 ⟨rfl,ur,f6⟩);obtain⟨S,hS⟩:=ah (str (sha.dY bh));have r6:=H5.o0.gg f6 (λx hx hm=>by simp only[iQ]at hm;exact H5.l3 (hm▸hx));have rm:=ur.rd.mid 12 20 (by rw[HH.o1];decide);rw[HH.l5,show cutAt (some ⟨g,o,none⟩) 32 12=some ⟨g,o+12,none⟩ by unfold cutAt;simp[Aj]]at rm;have Y9:=yK w6 Tryz.underlying23 Tryz.underlying5 Tryz.underlying9 (sha.sf bh) rm.cs;have Y8:=yK w6 Tryz.underlying23 Tryz.underlying5 Tryz.underlying9 (sha.sf bh) r6.cs;rw[<-hS]at Y9 Y8;have hss:(S==S)=true:=by rw[hS,zdd];exact beq_self_eq_true _
 have k1:w6.cell? ⟨R,1,none⟩=some (.int .i64 32):=by rw[cell_of ur.box];rfl
 have hex:=QU a5 c5 (sha.dY bh) w6 r6 (by decide);rw[sha.sf]at hex;obtain⟨X,hX⟩:=ah (str (ib (sha.dY bh)));rw[<-hX]at hex;have hXs:X.size=40:=by
  have:(str (ib (sha.dY bh))).size=(ib (sha.dY bh)).length:=by simp[str,ByteArray.size]
  rw[hX,this,eV,sha.sf]
 have hf:Fr [] w w6:=(H4.o1.trans H5.o1).step f6 (λy hy=>.inr (by simp only[iQ]at hy;rw[hy,H2.l3];exact aw _));have H6:=au hex hXs hf;clear hex hXs hf hX rm r6 ur f6 hS;go_wp2_with (first
  | (go_at_call 45;refine (zb2 _).mono ?_;rintro e w7 ⟨rfl,hw⟩;obtain rfl:=hw.symm)
  | (go_at_call 46;refine H6.o0.mono ?_;rintro e w8 ⟨rfl,f8⟩))
 go_ret3;exact⟨⟨X,H6.o1,rfl⟩,H6.l2.trans f8⟩
theorem qno (j:Nat) (h2:j<=8) (w:World):(Instr.slice 9 (.string ⟨#[80,65,67,75,0,0,0,2]⟩) none (some (.int .i64 j)) none).run Tryz.prog w = .ok (.string (str (fL.take j))) w:=by
 have hs:(str fL).size=8:=rfl;have e:(⟨#[80,65,67,75,0,0,0,2]⟩:ByteArray)=str fL:=rfl;rw[e,run_slice_string_h w 9 (str fL) Tryz.underlying9 .i64 j (by omega) (by rw[hs];omega)];have:∀i:Fin 9,(str fL).extract 0 i.1=str (fL.take i.1):=by decide
 rw[show ((j:Nat):Int).toNat=j from rfl,this ⟨j,by omega⟩]
theorem PZ (bs:List UInt8) (k:Nat) (h:k+4<=bs.length):∃x0 x1 x2 x3,(bs.drop k).take 4=[x0,x1,x2,x3]:=by
 have hl:((bs.drop k).take 4).length=4:=by rw[eJ,eQ];omega
 match (bs.drop k).take 4,hl with
 | [x0,x1,x2,x3],_=>exact⟨x0,x1,x2,x3,rfl⟩
theorem zdk {w:World} {r cap at_ c:Nat} {a a5:Option Addr} {bs D:List UInt8} (h:qH w r a cap bs at_) (r5:lib.Rd w a5 c D) (hD:0<D.length):r∉ae a5:=by
 obtain⟨g5,o5,rfl,CY⟩:=r5.at (i:=0) hD;simp only[ae,iQ];rintro rfl;rw[jS,cell_of h.box]at CY;match o5,CY with
 | 0,CY=>simp at CY
 | 1,CY=>simp at CY
 | n+2,CY=>simp at CY
def vC (w:World) (P:Except Nat (List eo×List UInt8)) (e:Ending) (w':World):Prop:=
 Fr [] w w'/\((∃x,P = .error x/\0<x/\x<100/\e = .returned (.tuple #[.slice none 0 0,.string ⟨#[]⟩,.int .i64 (x:Nat)]))\/
  ∃l id a ms,P = .ok (l,id)/\e = .returned (.tuple #[.slice a l.length l.length,.string (str id),.int .i64 0])/\ms.map (·.1)=l/\lv w' a ms/\
   (∀y∈ae a,w.heap.size<=y/\y<w'.heap.size)/\(a=none->l=[])/\(∀m∈ms,∀y∈ae m.2,w.heap.size<=y/\y<w'.heap.size))
theorem Rk (a:Option Addr) (cap:Nat) (bs:List UInt8) (w:World) (h:lib.Rd w a cap bs) :
  Calls Tryz.prog 18 #[.slice a bs.length cap] w (vC w (pread bs)):=by
 obtain⟨P,hP⟩:=ah (pread bs);rw[<-hP];unfold pread at hP;obtain⟨L,hL⟩:=ah bs.length;rw[<-hL]at hP ⊢;have cP:=h.le;have dv:=h.max;unfold maxLen at dv;rw[<-hL]at cP;by_cases lY:1048576<L
 ·rw[if_pos lY]at hP;have HP:=af hP;have d0:decide ((1048576:Int)<(L:Int))=true:=by simp;omega
  clear hP hL h;go_enter Tryz.func18,Tryz.ntmps18;go_wp2;go_ret3;exact⟨Fr.refl _ _,.inl ⟨5,HP.out,by decide,by decide,rfl⟩⟩
 ·rw[if_neg lY]at hP;have d0:decide ((1048576:Int)<(L:Int))=false:=by simp;omega
  obtain⟨n,hn⟩:=ah (min L 8);have SA:n<=L:=by omega
  have xX:n<=8:=by omega
  have PU:(n:Int)=if (8:Int)<(L:Int) then 8 else (L:Int):=by split<;>omega
  have et:bs.take n=bs.take 8:=by
   by_cases h8:8<=L
   ·rw[show n=8 by omega]
   ·rw[oI (by omega),oI (by omega)]
  have eb:fL.take n=fL.take L:=by
   by_cases h8:8<=L
   ·rw[show n=8 by omega,oI (l:=fL) (i:=L) (by show 8<=L;exact h8)];rfl
   ·rw[show n=L by omega]
  have hsl:=λw'=>lib.FA aq n a L cap (n:Nat) rfl (by omega) w'
  have kR:=λw'=>qno n xX w'
  have hcv:=λx c=>yK (w.drewN x) Tryz.underlying23 Tryz.underlying5 Tryz.underlying9 (bs:=bs.take n) (n:=n) (by rw[eJ];omega) ((h.take n).cs.fr (Fr.drewN [] w x) (by simp)) c
  rw[et]at hcv;rw[eb]at kR;obtain⟨sa,NJ⟩:∃s,s=str (bs.take 8):=⟨_,rfl⟩;obtain⟨sb,Ix⟩:∃s,s=str (fL.take L):=⟨_,rfl⟩;have bK:(sa.toList==sb.toList)=(bs.take 8==fL.take L):=by rw[NJ,Ix,bu,bu]
  rw[<-NJ]at hcv;rw[<-Ix]at kR;have H:=aF h hL hn PU;clear h hL hn PU et eb NJ Ix;by_cases hpre:bs.take 8=fL.take L
  ·have dn:(sa.toList==sb.toList)=true:=by rw[bK,hpre];exact beq_self_eq_true _
   rw[if_neg (by simpa using hpre)]at hP;have HP:=af hP;clear hP bK hpre;go_enter Tryz.func18,Tryz.ntmps18;go_upto_region 4 with (refine MT (n:Int) rfl _ _ _ rfl (L:Int) 8 rfl rfl H.out.2.2.2 ?_);go_quiet (fail);clear hsl kR hcv dn d0;go_upto_region 7 with fail;obtain⟨R,w2,hR,bq,f2,q2⟩:∃R w2,R=w.heap.size/\w2=(w.drewN nq).alloc (.cells #[.slice a L cap,.int .i64 (n:Nat)] 85)/\Fr [] w w2/\w2.heap[R]?=some (.cells #[.slice a L cap,.int .i64 (n:Nat)] 85 (0,0)):=⟨_,_,rfl,rfl,(Fr.drewN [] w nq).alloc _,bx (w.drewN nq) _⟩;rw[<-bq,<-hR];have Dk:qH w2 R a cap bs n:=⟨by rw[<-H.out.2.1];exact q2,H.out.1.fr f2,by rw[<-H.out.2.1];exact SA,λhb x hx=>by have:=Ag H.out.1 hb x hx;omega⟩;have hlen:bs.length<=100000000:=by rw[<-H.out.2.1];omega
   by_cases BP:L<12
   ·have yj:P = .error 4:=by rw[HP.out,if_pos BP]
    have FU:Fr [] w w2/\P = .error 4:=⟨f2,yj⟩;by_cases dz:n+4<=L
    ·have ht:=Cv R a cap bs n 4 w2 Dk hlen (by rw[<-H.out.2.1];exact dz);have HT:=aF ht f2 yj hR;have h8:n<8:=by have:=H.out.2.2.1;omega
     have d8:decide (n<8)=true:=by simpa using h8
     clear ht f2 q2 bq Dk hR FU yj;go_wp2_with (go_at_call 43;refine HT.o0.mono ?_;rintro e w3 ⟨rfl,rX,f3⟩);go_ret3;exact⟨HT.o1.step f3 (λy hy=>.inr (by simp at hy;rw[hy,HT.l2.2];exact aw _)),.inl ⟨4,HT.l2.1,by decide,by decide,rfl⟩⟩
    ·have ht:=Fo R a cap bs n 4 w2 Dk hlen (by rw[<-H.out.2.1];omega);have HT:=au ht f2 yj;clear ht f2 q2 bq Dk hR FU yj;by_cases h8:n<8
     ·go_wp2_with (go_at_call 43;refine HT.o0.mono ?_;rintro e w3 ⟨rfl,f3⟩);go_ret3;exact⟨HT.o1.trans f3,.inl ⟨4,HT.l2,by decide,by decide,rfl⟩⟩
     ·have d8:decide (n<8)=false:=by simpa using h8
      go_wp2_with (go_at_call 43;refine HT.o0.mono ?_;rintro e w3 ⟨rfl,f3⟩);go_ret3;exact⟨HT.o1.trans f3,.inl ⟨4,HT.l2,by decide,by decide,rfl⟩⟩
   ·obtain rfl:n=8:=by have:=H.out.2.2.1;omega
    have BJ:=HP.out;rw[if_neg BP]at BJ;have ht:=Cv R a cap bs 8 4 w2 Dk hlen (by rw[<-H.out.2.1];omega);obtain⟨a8,Jq⟩:=ah (cutAt a cap 8);rw[<-Jq]at ht;have HT:=bJ ht f2 BJ hR Jq hlen;clear ht f2 q2 bq Dk hR BJ Jq hlen;go_upto_region 10 with (go_at_call 43;refine HT.o0.mono ?_;rintro e w3 ⟨rfl,rX,f3⟩);have PR:Fr [] w w3:=HT.o1.step f3 (λy hy=>.inr (by simp at hy;rw[hy,HT.l2.2.1];exact aw _));obtain⟨x0,x1,x2,x3,DU⟩:=PZ bs 8 (by rw[<-H.out.2.1];omega);have rz:=rX.rd.mid 8 4 (by rw[<-H.out.2.1];omega);rw[DU,<-HT.l2.2.2.1]at rz;obtain⟨g,o,ea8,c0⟩:=rz.at (i:=0) (by simp);obtain⟨g1,o1,e1,c1⟩:=rz.at (i:=1) (by simp);obtain⟨g2,o2,e2,c2⟩:=rz.at (i:=2) (by simp);obtain⟨g3,o3,e3,c3⟩:=rz.at (i:=3) (by simp);have bI:=HT.l2.2.2.1;subst ea8;simp only[eS,qU,and_true]at e1 e2 e3;obtain⟨rfl,rfl⟩:=e1;obtain⟨rfl,rfl⟩:=e2;obtain⟨rfl,rfl⟩:=e3;simp only[jS,List.getElem_cons_zero,List.getElem_cons_succ]at c0 c1 c2 c3;have l0:=iB x0;have l1:=iB x1;have l2:=iB x2;have l3:=iB x3;obtain⟨N,hN⟩:=ah (crc.kh ((bs.drop 8).take 4));have Lu:N=((x0.toNat*256+x1.toNat)*256+x2.toNat)*256+x3.toNat:=by rw[hN,DU];unfold crc.kh;simp only[Ke,List.foldl_nil];omega
    have zm:=HT.l2.1;rw[<-hN]at zm;generalize x0.toNat=y0 at *;generalize x1.toNat=y1 at *;generalize x2.toNat=y2 at *;generalize x3.toNat=y3 at *;obtain⟨z1,iZ⟩:∃z,z=y0*16777216+y1*65536:=⟨_,rfl⟩;obtain⟨z2,lS⟩:∃z,z=z1+y2*256:=⟨_,rfl⟩;have r1:bits .or .i64 ((y0:Int)*16777216) ((y1:Int)*65536)=(z1:Int):=by have:=Mg y0 (y1*65536) 24 (by decide) (by omega) (by omega);rw[show y0*2^24+y1*65536=z1 by omega]at this;simpa using this
    have r2:bits .or .i64 (z1:Int) ((y2:Int)*256)=(z2:Int):=by have:=Mg (y0*256+y1) (y2*256) 16 (by decide) (by omega) (by omega);rw[show (y0*256+y1)*2^16+y2*256=z2 by omega,<-Cz,show (y0*256+y1)*2^16=z1 by omega]at this;simpa using this
    have r3:bits .or .i64 (z2:Int) (y3:Int)=(N:Int):=by have:=Mg ((y0*256+y1)*256+y2) y3 8 (by decide) (by omega) (by omega);rw[show ((y0*256+y1)*256+y2)*2^8+y3=N by omega,<-Cz,show ((y0*256+y1)*256+y2)*2^8=z2 by omega]at this;exact this
    have H3:=au rX PR zm;have YC:N<4294967296:=by omega
    have DT:z1<4294967296/\z2<4294967296:=by omega
    clear rX PR zm rz f3 DU hN Lu iZ lS bI;go_quiet (fail);clear c0 c1 c2 c3 r1 r2 r3 DT;obtain⟨w4,ft⟩:=ah (w3.drewN nq);rw[<-ft];have f4:Fr [] w3 w4:=by rw[ft];exact Fr.drewN [] w3 nq
    have mA:=H3.o0.fr f4;have H4:=ak mA (H3.o1.trans f4);clear ft f4 mA;by_cases h4096:4096<N
    ·have yj:=H3.l2;rw[if_pos h4096]at yj;have HPe:=af yj;have dN:decide ((4096:Int)<(N:Int))=true:=by simp;omega
     clear yj;go_wp2;go_ret3;exact⟨H4.l1,.inl ⟨5,HPe.out,by decide,by decide,rfl⟩⟩
    ·have yj:=H3.l2;rw[if_neg h4096]at yj;have dN:decide ((4096:Int)<(N:Int))=false:=by simp;omega
     obtain⟨PE,YA⟩:=ah (jT bs N 12 []);rw[<-YA]at yj;have Zr:=ak yj YA;clear yj YA;go_upto_block 0 with fail;clear dN;go_wp2;go_loopg [2,66] N (λk s2 s66 wr=>∃at_ c al ms,s2 = .slice al ms.length c/\s66 = .int .i64 (ms.length:Nat)/\ms.length+k=N/\jT bs k at_ (ms.map (·.1))=PE/\qH wr R a cap bs at_/\J3 w wr R al c ms/\R<wr.heap.size);case atStart=>exact⟨12,0,none,[],rfl,rfl,by simp,Zr.l1.symm,H4.o0,J3.start _ _ _ H4.l1,lt_of_block H4.o0.box⟩
     case round=>
      obtain⟨at_,c,al,ms,rfl,rfl,lF,xT,bP,zh,Gu⟩:=hrel;obtain⟨M,hM⟩:=ah ms.length;rw[<-hM]at lF;by_cases hi:M<N
      ·obtain⟨k,rfl⟩:∃k,gk=k+1:=⟨gk-1,by omega⟩;have OQ:=qvd R a cap bs at_ wr bP HT.l2.2.2.2;rw[jT]at xT;have HE:=bJ OQ xT bP zh Gu hM;rw[<-hM];clear OQ xT bP zh hM;go_upto_region 16 with (first|(go_at_call 44;refine HE.o0.mono ?_;rintro e w5 ⟨f5,(⟨x,V,hx,k0,k1,rfl,hV7,hV1⟩|⟨⟨xk,xa,xs,xc,xd,xb,xo⟩,q,da,hx,rfl,tR,Z8,nbx⟩)⟩<;>try simp only[rS])|(refine wpList_store_row rfl 65 (.tmp 9) (.tmp 71) rfl w5.heap.size V rfl rfl 65 _ (bx w5 _) (by rw[cm,hV7]) (by rw[hV7];rfl) hV1 ?_))
       ·have vV:Fr [] w w5:=HE.o3.fr.step f5 (λy hy=>.inr (by simp at hy;rw[hy,HT.l2.2.1];exact aw _));have f6:Fr [] w ((w5.alloc (.cells #[.int .i64 0,.int .i64 0,.int .i64 0,.int .u32 0,.slice none 0 0,.string ⟨#[]⟩,.int .i64 0] 65)).setRow w5.heap.size V):=(vV.alloc _).setRow (.inr vV.size) _;have xT:=HE.o1;rw[hx]at xT;have zl:P = .error x:=by rw[Zr.o0,<-xT]
        have HX:=ak f6 zl;have d1:((x:Int)!=0)=true:=by simp;omega
        clear vV f6 xT zl hx f5;go_wp2;go_ret3;exact⟨HX.o0,.inl ⟨x,HX.l1,k0,k1,rfl⟩⟩
       ·obtain⟨m,hm⟩:∃m:EM,m=(⟨xk,xa,xs,xc,xd,xb,xo⟩,da):=⟨_,rfl⟩;have ic:m.1.data=xd:=by rw[hm]
        have lX:m.2=da:=by rw[hm]
        have fA:Fr [] w5 ((w5.alloc (.cells #[.int .i64 xk,.int .i64 xa,.int .i64 xs,.int .u32 xc,.slice da xd.length xd.length,.string (str xb),.int .i64 xo] 65)).alloc (.cells #[.int .i64 xk,.int .i64 xa,.int .i64 xs,.int .u32 xc,.slice da xd.length xd.length,.string (str xb),.int .i64 xo] 65)):=((Fr.refl [] w5).alloc _).alloc _;have uE:=dr (dr HE.o3.own f5 (λk hk hm=>(HE.o3.new k (by rw[<-dw al ms.length c,hk];simp)).2 (by simpa using hm))) fA (by simp);have cA:Cs ((w5.alloc (.cells #[.int .i64 xk,.int .i64 xa,.int .i64 xs,.int .u32 xc,.slice da xd.length xd.length,.string (str xb),.int .i64 xo] 65)).alloc (.cells #[.int .i64 xk,.int .i64 xa,.int .i64 xs,.int .u32 xc,.slice da xd.length xd.length,.string (str xb),.int .i64 xo] 65)) (some ⟨w5.heap.size+1,0,none⟩) (rT m):=by have:=zE (w5.alloc (.cells #[.int .i64 xk,.int .i64 xa,.int .i64 xs,.int .u32 xc,.slice da xd.length xd.length,.string (str xb),.int .i64 xo] 65)) #[.int .i64 xk,.int .i64 xa,.int .i64 xs,.int .u32 xc,.slice da xd.length xd.length,.string (str xb),.int .i64 xo] 65 (0,0);rw[eZ]at this;rw[hm];exact this
        have xT:=HE.o1;rw[hx]at xT;obtain⟨S,hS⟩:=ah (ae al);have zaM:=HE.o3.fr.size;have HA:=rV uE cA fA xT hS ic lX tR Z8 nbx f5 hm;clear uE cA fA xT hS ic lX tR Z8 nbx f5 hx;go_wp2_with (refine iq zdb rfl _ _ rfl (.slice al M c) M (dJ ms) S rfl (by rw[dw,HA.out.2.2.2.2.1]) (by have:=HA.out.1;rw[<-HE.l5]at this;exact this) (some ⟨w5.heap.size+1,0,none⟩) 1 1 (rT m) rfl (by decide) (by simp) HA.out.2.1 rfl (zbs _) (by omega) (by unfold maxLen;omega) ?_;intro a2 c2 w8 A1;have xv:=af A1;clear A1);go_roundg k;case measure=>omega
        case rel=>
         obtain⟨q1,q2,q3,q4,q5,q6,q7,q8,q9,zH,q11,q12⟩:=HA.out;have A1:=xv.out;rw[q5,HE.l5]at A1;have Gu:=HT.l2.2.1;have Pa:∀x∈ae al,w.heap.size<=x/\x≠R:=HE.o3.new;have X6:=HE.o3.more (m:=m) (by rw[Gu];exact aw _) HE.o4 (q11.trans (q3.mono (by simp))) (by rw[q6,q7];exact q9.fr q3) (by rw[q7];exact λy hy=>⟨(zH y hy).1,eT (zH y hy).2 q3.size⟩) A1;refine⟨q,c2,a2,ms++[m],?_,?_,?_,?_,?_,X6,?_⟩
         ·rw[aK,HE.l5];rfl
         ·rw[aK,<-HE.l5];first|rfl|go_num
         ·rw[aK,<-HE.l5];simp;omega
         ·rw[gB,<-q4,q12];rfl
         ·exact (q8.fr q3).PK A1.fr (λhm=>(Pa R hm).2 rfl) (λhb x hx hm=>by have:=Ag H.out.1 hb x hx;have:=(Pa x hm).1;omega)
         ·exact eT HE.o4 (bS (bS q11.size q3.size) A1.fr.size)
      ·obtain rfl:gk=0:=by omega
       obtain rfl:M=N:=by omega
       rw[jT]at xT;have Pj:=Zr.o0;rw[<-xT]at Pj;simp only at Pj;have Ym:=bP.le;rw[<-H.out.2.1]at Ym;have c1:wr.cell? ⟨R,1,none⟩=some (.int .i64 at_):=by rw[cell_of bP.box];rfl
       have hts:(bs.take at_).length=at_:=by rw[eJ,<-H.out.2.1];omega
       have lT:=sha.Rl a cap (bs.take at_) wr (bP.rd.take at_) (by omega);rw[hts]at lT;have zd:=λw'=>lib.FA aq at_ a L cap (at_:Nat) rfl (by omega) w'
       obtain⟨D,hD⟩:=ah (sha.dY (bs.take at_));rw[<-hD]at lT Pj;have hDl:D.length=20:=by rw[hD];exact sha.sf _
       have HL:=bJ Pj bP zh lT hM hDl;rw[<-hM];clear Pj bP zh lT hM xT lF hts hD hDl;go_upto_region 21 with (go_at_call 35;refine HL.o3.mono ?_;rintro e w5 ⟨⟨a5,c5,rfl,r5⟩,f5⟩);have tR:=HL.o1.fr f5;have kG:R∉ae a5:=zdk tR r5 (by rw[HL.l5];decide);have vV:=HL.o2.fr.trans f5;by_cases nP:L-at_<20
       ·have ht:=Fo R a cap bs at_ 20 w5 tR HT.l2.2.2.2 (by rw[<-H.out.2.1];omega);have zl:P = .error 4:=by rw[HL.o0,if_pos nP]
        have HX:=au ht vV zl;clear ht vV zl tR kG r5 f5 c1 zd;go_wp2_with (go_at_call 43;refine HX.o0.mono ?_;rintro e w6 ⟨rfl,f6⟩);go_ret3;exact⟨HX.l1.1.trans f6,.inl ⟨4,HX.l1.2,by decide,by decide,rfl⟩⟩
       ·have ht:=Cv R a cap bs at_ 20 w5 tR HT.l2.2.2.2 (by rw[<-H.out.2.1];omega);have yk:=HL.o0;rw[if_neg nP]at yk;obtain⟨ap,bI⟩:=ah (cutAt a cap at_);rw[<-bI]at ht;have HX:=cz ht vV yk r5 bI kG f5;clear ht vV yk r5 f5 c1 zd tR bI kG;go_upto_region 24 with (go_at_call 43;refine HX.o0.mono ?_;rintro e w6 ⟨rfl,ur,f6⟩);have r6:=HX.l1.2.2.1.gg f6 (λx hx hm=>by simp only[iQ]at hm;exact HX.l1.2.2.2.2.1 (hm▸hx));have rm:=ur.rd.mid at_ 20 (by rw[<-H.out.2.1];omega);rw[<-HX.l1.2.2.2.1]at rm;obtain⟨bp,tZ⟩:=ah ((bs.drop at_).take 20);have bK:bp.length=20:=by rw[tZ,eJ,eQ,<-H.out.2.1];omega
        have yk:=HX.l1.2.1;rw[<-tZ]at rm yk;have Y9:=yK w6 Tryz.underlying23 Tryz.underlying5 Tryz.underlying9 bK rm.cs;have Y8:=yK w6 Tryz.underlying23 Tryz.underlying5 Tryz.underlying9 HL.l5 r6.cs;obtain⟨sc,hsc⟩:∃s,s=str bp:=⟨_,rfl⟩;obtain⟨sd,WY⟩:∃s,s=str D:=⟨_,rfl⟩;have zS:(sc.toList==sd.toList)=(bp==D):=by rw[hsc,WY,bu,bu]
        rw[<-hsc]at Y9;rw[<-WY]at Y8;have f6w:=HX.l1.1.step f6 (λy hy=>.inr (by simp at hy;rw[hy,HT.l2.2.1];exact aw _));have k1:w6.cell? ⟨R,1,none⟩=some (.int .i64 ((at_+20:Nat):Int)):=by rw[cell_of ur.box];rfl
        obtain⟨u,hu⟩:=ah (at_+20);rw[<-hu]at k1 yk;have huL:u<=L:=by omega
        have HU:=aF r6 f6w f6 hu;clear r6 f6w f6 ur rm tZ hsc WY hu;by_cases heq:bp=D
        ·have dq:(sc.toList==sd.toList)=true:=by rw[zS,heq];exact beq_self_eq_true _
         rw[if_neg (by simpa using heq)]at yk;clear zS;by_cases ej:u<L
         ·have zl:=yk;rw[if_pos ej]at zl;have Ch:=af zl;clear zl yk heq;go_wp2;go_ret3;exact⟨HU.o1,.inl ⟨3,Ch.out,by decide,by decide,rfl⟩⟩
         ·have zl:=yk;rw[if_neg ej]at zl;have dm:decide (u<L)=false:=by simpa using ej
          have hex:=QU a5 c5 D w6 HU.o0 (by rw[HL.l5];decide);rw[HL.l5]at hex;have hMc:M<=c/\c<=maxLen/\(al=none->c=0):=by have:=Hv HL.o2.own;obtain⟨_,_,he,k1,k2,k3⟩:=this;simp only[lN]at he;obtain⟨rfl,_,rfl⟩:=he;exact⟨by rw[HL.o4];exact k1,k2,k3⟩
          obtain⟨X,hX⟩:=ah (str (ib D));rw[<-hX]at hex;have Ch:=aF zl hex hMc hX;clear zl yk heq hex hMc hX;go_wp2_with (first
           | (go_at_call 45;refine (qy5 al M c _ Ch.out.2.2.1.1 Ch.out.2.2.1.2.1).mono ?_;rintro e w7 ⟨rfl,hw⟩;obtain rfl:=hw.symm)
           | (go_at_call 46;refine Ch.out.2.1.mono ?_;rintro e w8 ⟨rfl,f8⟩))
          go_ret3;have fR:Fr [R] wr w8:=((HX.l1.2.2.2.2.2.mono (T:=[R]) (by simp)).trans HU.o2).trans (f8.mono (by simp));have zh:=HL.o2;have hMl:=HL.o4;refine⟨HU.o1.trans f8,.inr ⟨ms.map (·.1),ib D,al,ms,Ch.out.1,?_,rfl,⟨(Fe zh.own).fr fR (λx hx hm=>(zh.new x hx).2 (by simpa using hm)),λm' jA=>(zh.dat m' jA).1.gg fR (λx hx hm=>((zh.dat m' jA).2 x hx).2.2.2 (by simpa using hm))⟩,λy hy=>⟨(zh.new y hy).1,eT (qR zh.own (pI hy)) fR.size⟩,λe=>?_,λm' jA y hy=>⟨((zh.dat m' jA).2 y hy).1,eT ((zh.dat m' jA).2 y hy).2.1 fR.size⟩⟩⟩
          ·rw[cN,<-hMl,<-Ch.out.2.2.2];rfl
          ·have h1:=Ch.out.2.2.1.2.2 e;have h2:=Ch.out.2.2.1.1;rw[List.map_eq_nil_iff];exact wk (by omega)
        ·have dq:(sc.toList==sd.toList)=false:=by rw[zS];simpa using heq
         rw[if_pos (by simpa using heq)]at yk;have Ch:=af yk;clear yk heq zS;go_wp2;go_ret3;exact⟨HU.o1,.inl ⟨6,Ch.out,by decide,by decide,rfl⟩⟩
  ·have dn:(sa.toList==sb.toList)=false:=by rw[bK];simpa using hpre
   rw[if_pos (by simpa using hpre)]at hP;have HP:=af hP;clear hP bK hpre;go_enter Tryz.func18,Tryz.ntmps18;go_upto_region 4 with (refine MT (n:Int) rfl _ _ _ rfl (L:Int) 8 rfl rfl H.out.2.2.2 ?_);go_quiet (fail);go_wp2;go_ret3;exact⟨Fr.drewN _ _ _,.inl ⟨3,HP.out,by decide,by decide,rfl⟩⟩
end pk

end Go.Proofs.YtkmpfgpfbmeihaaGreatDoor