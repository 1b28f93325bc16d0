/-
  Texts of this proof, one behind the other: LoHash, AppStr, LoPath, ObjName, Digits, RHeader, LooseLaw, LooseLaw2.
-/
import Derived.Test.YtbabjlohkniciaaGreatDoorV15
import Derived.Lib.AppendStr
import Derived.Laws.ResultCell
import Derived.Lib.ItoaNum
set_option maxHeartbeats 16000000
set_option maxRecDepth 100000
set_option linter.unusedVariables false
set_option linter.unusedSimpArgs false
namespace Go.Proofs.YtbabjlohkniciaaGreatDoor.lo
open Go Go.RowKit lib bm crc pk
set_option maxRecDepth 100000
def HD:List UInt8:=[48,49,50,51,52,53,54,55,56,57,97,98,99,100,101,102]
theorem zdv (i:Nat) (hi:i<16):dgv (HD[i]'hi)=some i:=by
 have h:∀k:_root_.Fin 16,dgv (HD[k.1]'k.2)=some k.1:=by decide
 exact h ⟨i,hi⟩
theorem zdo {c:UInt8} {x:Nat} (h:dgv c=some x):∃hx:x<16,HD[x]'hx=c:=by
 have hx:=qpk h;refine⟨hx,?_⟩;have h2:∀k:_root_.Fin 256,∀y:_root_.Fin 16,dgv (UInt8.ofNat k.1)=some y.1→HD[y.1]'y.2=UInt8.ofNat k.1:=by decide +kernel
 have h3:=h2 ⟨c.toNat,c.toNat_lt⟩ ⟨x,hx⟩;simp only[UInt8.ofNat_toNat]at h3;exact h3 h
theorem qmc (c:UInt8) (w:World):Calls Tryz.prog 63 #[.int .u8 ((c.toNat:Nat):Int)] w λe w'=>e = .returned (.int .i64 (match dgv c with|some x=>(x:Int)|none=>-1))∧w'=w:=by
 have hidx:∀i (hi:i<16) (w:World),(Instr.index 9 (.string ⟨#[48,49,50,51,52,53,54,55,56,57,97,98,99,100,101,102]⟩) (.int .i64 (i:Nat))).run Tryz.prog w = .ok (.int .u8 (((HD[i]'hi).toNat:Nat):Int)) w:=λi hi w=>qgt HD hi w
 obtain⟨R,hR⟩:∃R:Int,R=(match dgv c with|some x=>(x:Int)|none=>-1):=⟨_,rfl⟩;rw[<-hR];obtain⟨n,hn⟩:=zex c.toNat;rw[<-hn];have H:=zhd3 hidx hR hn;clear hidx hR hn;go_enter Tryz.func63,Tryz.ntmps63;go_wp2;go_loopg [3] 16 (λk s3 wr=>∃i:Nat,s3 = .int .i64 (i:Nat)∧i+k=16∧wr=w∧∀j (hj:j<16),j<i→HD[j]'hj≠c);case atStart=>exact⟨0,rfl,rfl,rfl,λj hj h=>absurd h (Nat.not_lt_zero j)⟩
 case round=>
  obtain⟨i,rfl,hik,hwr,hno⟩:=hrel;have hwr:=hwr.symm;subst hwr;have HN:=zhd hno;clear hno;by_cases hi:i<16
  ·obtain⟨k,rfl⟩:∃k,gk=k+1:=⟨gk-1,by omega⟩;have hx:=H.o0 i hi;have hd:=zdv i hi;obtain⟨d,hd'⟩:∃d,d=HD[i]'hi:=⟨_,rfl⟩;rw[<-hd']at hx hd;obtain⟨m,hm⟩:=zex d.toNat;rw[<-hm]at hx;have HD':=zhd3 hd' hd hm;clear hd' hd hm;by_cases he:m=n
   ·have g1:((m:Int)==(n:Int))=true:=by rw[he];simp
    clear he;go_wp2;go_ret;refine⟨?_,rfl⟩;have e1:d=c:=qjn.1 (by rw[<-HD'.out.2.2,<-H.l2];have:=beq_iff_eq.1 g1;omega);have e2:=HD'.out.2.1;rw[e1]at e2;rw[H.o1,e2];rfl
   ·have g1:((m:Int)==(n:Int))=false:=by simp only[beq_eq_false_iff_ne];omega
    have HE:=zhd he;clear he;go_wp2;go_roundg k;case measure=>omega
    case rel=>
     refine⟨i+1,by go_num,by omega,rfl,λj hj h=>?_⟩;by_cases hji:j=i
     ·subst hji;rw[<-HD'.out.1];rintro rfl;exact HE.out (by rw[HD'.out.2.2,H.l2])
     ·exact HN.out j hj (by omega)
  ·obtain rfl:i=16:=by omega
   go_wp2;go_ret;refine⟨?_,rfl⟩;have e:dgv c=none:=by
    cases hd:dgv c with
    | none=>rfl
    | some x=>obtain⟨hx,h1⟩:=zdo hd;exact absurd h1 (HN.out x hx hx)
   rw[H.o1,e];rfl
theorem runhexA (s:List UInt8) (w:World) (hlen:s.length≤140737488355328):Calls Tryz.prog 36 #[.string (str s)] w (UnhexP w s):=by
 obtain⟨N,hN⟩:=zex s.length;have hsz:(str s).size=N:=by rw[hN];simp[str,ByteArray.size]
 have hidx:∀i (hi:i<s.length),∀w:World,(Instr.index 9 (.string (str s)) (.int .i64 (i:Nat))).run Tryz.prog w = .ok (.int .u8 ((s[i].toNat:Nat):Int)) w:=λi hi w=>qgt s hi w
 rw[<-hN]at hlen;by_cases hodd:N%2=1
 ·have hb:=qly (s:=s) (by omega);have HB:=zhd hb;have g1:(N:Int)%2=1:=by omega
  have g0:(((N:Int)%2)==1)=true:=by rw[g1];decide
  obtain⟨z,hz⟩:=zex (str s);rw[<-hz]at hsz ⊢;clear hidx hb hN hz;go_enter Tryz.func36,Tryz.ntmps36;go_wp2;go_ret2;exact UnhexP.bad HB.out ⟨rfl,Fr.refl _ _⟩
 obtain⟨L,hL⟩:∃L,N=2*L:=⟨N/2,by omega⟩;obtain⟨z,hz⟩:=zex (str s);rw[<-hz]at hsz hidx ⊢;rw[hL]at hsz hN hlen;have HI:=zhd2 hN hidx;clear hL hN hz hidx hodd;go_enter Tryz.func36,Tryz.ntmps36;go_upto_region 4 with fail;have o0:Wr w (w.alloc (.cells #[] 5)) (some ⟨w.heap.size,0,none⟩) 0 []:=⟨⟨rfl,.inr ⟨w.heap.size,0,#[],rfl,qba _,qa4 _ _,qag _,qba _,rfl,rfl⟩⟩,(Fr.refl _ _).alloc _,by simp[blk]⟩;obtain⟨w0,hw0⟩:=zex (w.alloc (.cells #[] 5));rw[<-hw0]at o0 ⊢;have H0:=zhd o0;clear o0 hw0;go_wp2;go_loopg [4,5] L (λk s4 s5 wr=>∃(i:Nat) (a:Option Addr) (c:Nat) (out:List UInt8),s5 = .int .i64 (2*(i:Int))∧s4 = .slice a out.length c∧i+k=L∧Wr w wr a c out∧unhexL (s.take (2*i))=some out∧out.length=i);case atStart=>exact⟨0,_,0,[],rfl,rfl,by omega,H0.out,rfl,rfl⟩
 case round=>
  obtain⟨i,a,c,out,rfl,rfl,hik,h,hout,hol⟩:=hrel;have H:=zhd3 h hout hol;have hob:out.length≤70368744177664:=by omega
  clear h hout hol;by_cases hi:i<L
  ·obtain⟨k,rfl⟩:∃k,gk=k+1:=⟨gk-1,by omega⟩;have hil:2*i<s.length:=by rw[<-HI.o0];omega
   have hil2:2*i+1<s.length:=by rw[<-HI.o0];omega
   have hx0:=HI.l1 (2*i) hil;have hx1:=HI.l1 (2*i+1) hil2;have e0:((2*i:Nat):Int)=2*(i:Int):=by omega
   have e1:((2*i+1:Nat):Int)=2*(i:Int)+1:=by omega
   rw[e0]at hx0;rw[e1]at hx1;obtain⟨x,hx⟩:=zex (s[2*i]);obtain⟨y,hy⟩:=zex (s[2*i+1]);rw[<-hx]at hx0;rw[<-hy]at hx1;have d0:=qmc x;have d1:=qmc y;have ht:s.take (2*(i+1))=s.take (2*i)++[x,y]:=by rw[show 2*(i+1)=2*i+1+1 by omega,qbc hil2,qbc hil,hx,hy,qat];rfl
   have hbad:(dgv x=none∨dgv y=none)→unhexL s=none:=λhq=>qip i (by rw[qaf hil,hx]) (by rw[qaf hil2,hy]) hq
   have HT:=zhd2 ht hbad;clear e0 e1 ht hbad hx hy hil hil2;generalize hnx:x.toNat=nx at *;generalize hny:y.toNat=ny at *;cases hdx:dgv x with
   | none=>
    rw[hdx]at d0;dsimp only at d0;have HX:=zhd hdx;obtain⟨vy,hvy⟩:∃vy:Int,vy=(match dgv y with|some x=>(x:Int)|none=>-1):=⟨_,rfl⟩;rw[<-hvy]at d1;clear hdx hnx hny hvy;go_upto_region 8 with (go_at_call 63;refine (d0 _).mono ?_;rintro e w1 ⟨rfl,rfl⟩);go_upto_region 9 with (go_at_call 63;refine (d1 _).mono ?_;rintro e w1 ⟨rfl,rfl⟩);clear d0 d1 hx0 hx1;go_wp2;go_ret2;exact UnhexP.bad (HT.l1 (.inl HX.out)) ⟨rfl,H.o0.fr⟩
   | some vx=>
    have hvx:=qpk hdx;rw[hdx]at d0;dsimp only at d0;cases hdy:dgv y with
    | none=>
     rw[hdy]at d1;dsimp only at d1;have HX:=zhd hdy;have g1:decide ((vx:Int)<0)=false:=by simp
     clear hdx hdy hnx hny;go_upto_region 8 with (go_at_call 63;refine (d0 _).mono ?_;rintro e w1 ⟨rfl,rfl⟩);go_upto_region 9 with (go_at_call 63;refine (d1 _).mono ?_;rintro e w1 ⟨rfl,rfl⟩);clear d0 d1 hx0 hx1;go_wp2;go_ret2;exact UnhexP.bad (HT.l1 (.inr HX.out)) ⟨rfl,H.o0.fr⟩
    | some vy=>
     have hvy:=qpk hdy;rw[hdy]at d1;dsimp only at d1;obtain⟨v,hv⟩:=zex (16*vx+vy);have en:16*(vx:Int)+(vy:Int)=(v:Int):=by omega
     have hvb:v<256:=by omega
     have e3:(v:Int)%256=(v:Int):=by omega
     have hs:=qhm x y H.o1 hdx hdy;rw[<-hv,<-HT.o0]at hs;obtain⟨b,hb⟩:=zex (UInt8.ofNat v);rw[<-hb]at hs;have hbv:bv b = .int .u8 v:=by unfold bv;rw[hb,ql0 (by omega)]
     obtain⟨S,hS⟩:=zex (blk a);have f0:Fr [] wr (wr.alloc (.cells #[.int .u8 v] 5)):=(Fr.refl [] wr).alloc _;have ownA:=qa7 H.o0.own f0 (by simp);have cA:Cs (wr.alloc (.cells #[.int .u8 v] 5)) (some ⟨wr.heap.size,0,none⟩) [bv b]:=by rw[hbv];exact qdu _ _ _ 5 (qa4 wr _)
     have HA:=zhd4 ownA cA f0 hs;have HS:=zhd hS;have g1:decide ((vx:Int)<0)=false:=by simp
     have g2:decide ((vy:Int)<0)=false:=by simp
     clear ownA cA f0 hS hs hdx hdy hv hb hbv hnx hny;go_upto_region 8 with (go_at_call 63;refine (d0 _).mono ?_;rintro e w1 ⟨rfl,rfl⟩);go_upto_region 9 with (go_at_call 63;refine (d1 _).mono ?_;rintro e w1 ⟨rfl,rfl⟩);clear d0 d1 hx0 hx1;go_upto_region 11 with fail;go_wp2_with (refine qa5 sliceU8 rfl _ _ rfl (.slice a out.length c) out.length (out.map bv) S rfl (by rw[qbp,HS.out]) HA.o0 (some ⟨_,0,none⟩) 1 1 [bv b] rfl (by decide) (by simp) HA.o1 (by rfl) (qev [b]) (by omega) (by unfold maxLen;omega) ?_;intro a2 c2 w2 A1;have HA1:=zhd A1;clear A1);go_roundg k;case measure=>omega
     case rel=>have A1:=HA1.out;rw[HS.out]at A1;refine⟨i+1,a2,c2,out++[b],by go_num,by rw[qab];rfl,by omega,H.o0.step HA.o2 A1,HA.l3,by rw[qab,H.l2];rfl⟩
  ·obtain rfl:i=L:=by omega
   go_wp2;go_ret2;have h2:=H.o1;rw[HI.o0,List.take_length]at h2;exact UnhexP.good h2 ⟨a,c,rfl,H.o0⟩
theorem qss (s:List UInt8) (w:World) (hlen:s.length≤140737488355328):Calls Tryz.prog 25 #[.string (str s)] w λe w'=>e = .returned (.bool (hashB s))∧Fr [] w w':=by
 have hu:=unhexA s w hlen;unfold hashB;cases hs:unhexL s with
 | none=>
  have hu:=hu.mono λe w' (h:UnhexP w s e w')=>by unfold UnhexP at h;rw[hs]at h;exact h
  dsimp only at hu ⊢;have H:=zhd hu;clear hu hs;go_enter Tryz.func25,Tryz.ntmps25;go_wp2_with (go_at_call 53;refine H.out.mono ?_;rintro e w1 ⟨rfl,f1⟩;have H1:=zhd f1;clear f1);go_ret;exact⟨rfl,H1.out⟩
 | some bs=>
  have hu:=hu.mono λe w' (h:UnhexP w s e w')=>by unfold UnhexP at h;rw[hs]at h;exact h
  dsimp only at hu ⊢;obtain⟨n,hn⟩:=zex bs.length;unfold GotHex at hu;rw[<-hn]at hu ⊢;have H:=zhd hu;clear hu hs hn;by_cases h20:n=20
  ·subst h20;go_enter Tryz.func25,Tryz.ntmps25;go_wp2_with (go_at_call 53;refine H.out.mono ?_;rintro e w1 ⟨a,c,rfl,W1⟩;have H1:=zhd W1;clear W1);go_ret;exact⟨rfl,H1.out.fr⟩
  ·have g1:((n:Int)==20)=false:=by simp only[beq_eq_false_iff_ne];omega
   have g2:(n==20)=false:=by simpa using h20
   rw[g2];clear h20 g2;go_enter Tryz.func25,Tryz.ntmps25;go_wp2_with (go_at_call 53;refine H.out.mono ?_;rintro e w1 ⟨a,c,rfl,W1⟩;have H1:=zhd W1;clear W1);go_ret;exact⟨rfl,H1.out.fr⟩
theorem qvt (s:List UInt8) (w:World) (hlen:s.length≤140737488355328):Calls Tryz.prog 15 #[.string (str s)] w λe w'=>e = .returned (.bool (hashB s))∧Fr [] w w':=by
 have hu:=runhexA s w hlen;unfold hashB;cases hs:unhexL s with
 | none=>
  have hu:=hu.mono λe w' (h:UnhexP w s e w')=>by unfold UnhexP at h;rw[hs]at h;exact h
  dsimp only at hu ⊢;have H:=zhd hu;clear hu hs;go_enter Tryz.func15,Tryz.ntmps15;go_wp2_with (go_at_call 36;refine H.out.mono ?_;rintro e w1 ⟨rfl,f1⟩;have H1:=zhd f1;clear f1);go_ret;exact⟨rfl,H1.out⟩
 | some bs=>
  have hu:=hu.mono λe w' (h:UnhexP w s e w')=>by unfold UnhexP at h;rw[hs]at h;exact h
  dsimp only at hu ⊢;obtain⟨n,hn⟩:=zex bs.length;unfold GotHex at hu;rw[<-hn]at hu ⊢;have H:=zhd hu;clear hu hs hn;by_cases h20:n=20
  ·subst h20;go_enter Tryz.func15,Tryz.ntmps15;go_wp2_with (go_at_call 36;refine H.out.mono ?_;rintro e w1 ⟨a,c,rfl,W1⟩;have H1:=zhd W1;clear W1);go_ret;exact⟨rfl,H1.out.fr⟩
  ·have g1:((n:Int)==20)=false:=by simp only[beq_eq_false_iff_ne];omega
   have g2:(n==20)=false:=by simpa using h20
   rw[g2];clear h20 g2;go_enter Tryz.func15,Tryz.ntmps15;go_wp2_with (go_at_call 36;refine H.out.mono ?_;rintro e w1 ⟨a,c,rfl,W1⟩;have H1:=zhd W1;clear W1);go_ret;exact⟨rfl,H1.out.fr⟩
end Go.Proofs.YtbabjlohkniciaaGreatDoor.lo
namespace Go.Proofs.YtbabjlohkniciaaGreatDoor.lib
open Go Go.RowKit
theorem str_size (bs:List UInt8):(str bs).size=bs.length:=by simp[str,ByteArray.size]
section
variable {P : Program} {w : World} {t u e : TypeId}
end
section
variable {P : Program} {w : World} {ops : Array Oper} {rest : List Oper} {o : Oper} {a : Act} {Q : Exit → Act → World → Prop} {t : TypeId}
theorem qkm (bs:List UInt8) (l h:Nat):(str bs).extract l h=str ((bs.take h).drop l):=by apply ByteArray.ext;simp only[ByteArray.data_extract,str];apply Array.ext';simp[List.extract_eq_take_drop,List.drop_take]
theorem qcz (a b:List UInt8):str a++str b=str (a++b):=by apply ByteArray.ext;simp[str,ByteArray.data_append]
end
end Go.Proofs.YtbabjlohkniciaaGreatDoor.lib
namespace Go.Proofs.YtbabjlohkniciaaGreatDoor.lo
open Go Go.RowKit lib bm crc pk
set_option maxRecDepth 100000
theorem qxv (bs:List UInt8) (j:Nat) (h2:j≤bs.length) (w:World):(Instr.slice 9 (.string (str bs)) none (some (.int .i64 j)) none).run Tryz.prog w = .ok (.string (str (bs.take j))) w:=by rw[run_slice_string_h w 9 (str bs) Tryz.underlying9 .i64 j (by omega) (by rw[str_size];omega)];have:=qkm bs 0 j;simp only[qaj]at this;simp[this]
theorem qn7 (bs:List UInt8) (i:Nat) (h2:i≤bs.length) (w:World):(Instr.slice 9 (.string (str bs)) (some (.int .i64 i)) none none).run Tryz.prog w = .ok (.string (str (bs.drop i))) w:=by rw[run_slice_string_l w 9 (str bs) Tryz.underlying9 .i64 i (by omega) (by rw[str_size];omega)];have:=qkm bs i bs.length;rw[qa9 (qag _)]at this;simp[str_size,this]
def objs:List UInt8:=[111,98,106,101,99,116,115,47]
def pathL (s:List UInt8):List UInt8:=if hashB s=true then objs++s.take 2++[47]++s.drop 2 else []
theorem qr5 (s:List UInt8):((⟨#[111,98,106,101,99,116,115,47]⟩:ByteArray)++str (s.take 2)++(⟨#[47]⟩:ByteArray)++str (s.drop 2))=str (objs++s.take 2++[47]++s.drop 2):=by rw[<-qcz,<-qcz,<-qcz];rfl
theorem qh5 (s:List UInt8) (w:World) (hlen:s.length≤140737488355328):Calls Tryz.prog 10 #[.string (str s)] w λe w'=>e = .returned (.string (str (pathL s)))∧Fr [] w w':=by
 have hh:=qss s w hlen;unfold pathL;obtain⟨b,hb⟩:=zex (hashB s);rw[<-hb]at hh ⊢;cases b with
 | false=>
  have H:=zhd hh;obtain⟨z,hz⟩:=zex (str s);rw[<-hz]at H ⊢;clear hh hb hz;go_enter Tryz.func10,Tryz.ntmps10;go_wp2_with (go_at_call 25;refine H.out.mono ?_;rintro e w1 ⟨rfl,f1⟩;have H1:=zhd f1;clear f1);go_ret;exact⟨rfl,H1.out⟩
 | true=>
  have h40:=qf1 hb.symm;have k1:∀w:World,(Instr.slice 9 (.string (str s)) none (some (.int .i64 2)) none).run Tryz.prog w = .ok (.string (str (s.take 2))) w:=qxv s 2 (by omega);have k2:∀w:World,(Instr.slice 9 (.string (str s)) (some (.int .i64 2)) none none).run Tryz.prog w = .ok (.string (str (s.drop 2))) w:=qn7 s 2 (by omega);rw[if_pos rfl];have hp:=qr5 s;obtain⟨pz,hpz⟩:=zex (str (objs++s.take 2++[47]++s.drop 2));rw[<-hpz]at hp ⊢;obtain⟨z,hz⟩:=zex (str s);obtain⟨x,hx⟩:=zex (str (s.take 2));obtain⟨y,hy⟩:=zex (str (s.drop 2));rw[<-hz]at hh k1 k2 ⊢;rw[<-hx]at k1 hp;rw[<-hy]at k2 hp;have hxs:x.size=2:=by rw[hx,str_size,qar];omega
  have hys:y.size=38:=by rw[hy,str_size,qau];omega
  have H:=zhd2 hh hp;clear hh hb h40 hz hx hy hp hpz;go_enter Tryz.func10,Tryz.ntmps10;go_upto_region 3 with (go_at_call 25;refine H.out.1.mono ?_;rintro e w1 ⟨rfl,f1⟩;have H1:=zhd f1;clear f1);have k1:=λn=>k1 (w1.drewN n)
  have k2:=λn=>k2 (w1.drewN n)
  go_quiet (fail);go_wp2;go_ret;exact⟨by rw[<-H.out.2];rfl,H1.out.trans (Fr.drewN [] w1 _)⟩
end Go.Proofs.YtbabjlohkniciaaGreatDoor.lo
namespace Go.Proofs.YtbabjlohkniciaaGreatDoor.obj
open Go Go.RowKit lib
def kname (k:Int):List UInt8:=if k=1 then [99,111,109,109,105,116] else if k=2 then [116,114,101,101] else if k=3 then [98,108,111,98] else if k=4 then [116,97,103] else []
def names5:Array Value:=#[.string ⟨#[]⟩,.string ⟨#[99,111,109,109,105,116]⟩,.string ⟨#[116,114,101,101]⟩,.string ⟨#[98,108,111,98]⟩,.string ⟨#[116,97,103]⟩]
theorem infoN:(Tryz.prog.info? 107).map (·.size)=some 5:=by kernel_rfl
theorem qgp {fn:Func} {p:Tmp} (h:fn.results=#[.cell p 107]) (tmps:Array Value) (w:World) (g:Nat) (cs:Array Value) (fr:Nat×Nat)
  (hp:tmps.getD p undef = .pointer (some ⟨g,0,none⟩)) (hg:w.heap[g]?=some (.cells cs 107 fr)) (hs:cs.size=5):(results fn tmps).run Tryz.prog w = .ok (.agg cs) w:=
 results_cell_row h tmps w g 107 cs fr _ hp hg Tryz.underlying107 rfl (by rw[infoN,hs])
theorem qwe (w:World):Calls Tryz.prog 64 #[] w λe w'=>e = .returned (.agg names5)∧Fr [] w w':=by go_enter Tryz.func64,Tryz.ntmps64;go_wp2;exact bodyPost_ret (qgp rfl _ _ w.heap.size _ (0,0) rfl (qa4 w _) rfl) rfl ⟨rfl,(Fr.refl [] w).alloc _⟩
theorem qnq (k:Int) (w:World):Calls Tryz.prog 37 #[.int .i64 k] w λe w'=>e = .returned (.string (str (kname k)))∧Fr [] w w':=by
 by_cases h0:k<0
 ·have hn:kname k=[]:=by unfold kname;rw[if_neg (by omega),if_neg (by omega),if_neg (by omega),if_neg (by omega)]
  rw[hn];go_enter Tryz.func37,Tryz.ntmps37;go_wp2;go_ret;exact⟨rfl,Fr.refl _ _⟩
 ·by_cases h4:4<k
  ·have hn:kname k=[]:=by unfold kname;rw[if_neg (by omega),if_neg (by omega),if_neg (by omega),if_neg (by omega)]
   rw[hn];go_enter Tryz.func37,Tryz.ntmps37;go_wp2;go_ret;exact⟨rfl,Fr.refl _ _⟩
  ·have hk:k=0∨k=1∨k=2∨k=3∨k=4:=by omega
   have i0:∀w:World,(Instr.index 107 (.agg names5) (.int .i64 0)).run Tryz.prog w = .ok (.string ⟨#[]⟩) w:=λw=>by kernel_rfl
   have i1:∀w:World,(Instr.index 107 (.agg names5) (.int .i64 1)).run Tryz.prog w = .ok (.string ⟨#[99,111,109,109,105,116]⟩) w:=λw=>by kernel_rfl
   have i2:∀w:World,(Instr.index 107 (.agg names5) (.int .i64 2)).run Tryz.prog w = .ok (.string ⟨#[116,114,101,101]⟩) w:=λw=>by kernel_rfl
   have i3:∀w:World,(Instr.index 107 (.agg names5) (.int .i64 3)).run Tryz.prog w = .ok (.string ⟨#[98,108,111,98]⟩) w:=λw=>by kernel_rfl
   have i4:∀w:World,(Instr.index 107 (.agg names5) (.int .i64 4)).run Tryz.prog w = .ok (.string ⟨#[116,97,103]⟩) w:=λw=>by kernel_rfl
   clear h0 h4;rcases hk with rfl|rfl|rfl|rfl|rfl
   all_goals
    go_enter Tryz.func37,Tryz.ntmps37
    go_wp2_with (go_at_call 64;refine (qwe _).mono ?_;rintro e w1 ⟨rfl,f1⟩)
    go_ret
    exact⟨rfl,f1⟩
theorem qvr (k:Int) (w:World):Calls Tryz.prog 47 #[.int .i64 k] w λe w'=>e = .returned (.string (str (kname k)))∧Fr [] w w':=by
 by_cases h0:k<0
 ·have hn:kname k=[]:=by unfold kname;rw[if_neg (by omega),if_neg (by omega),if_neg (by omega),if_neg (by omega)]
  rw[hn];go_enter Tryz.func47,Tryz.ntmps47;go_wp2;go_ret;exact⟨rfl,(Fr.refl [] w).alloc _⟩
 ·by_cases h4:4<k
  ·have hn:kname k=[]:=by unfold kname;rw[if_neg (by omega),if_neg (by omega),if_neg (by omega),if_neg (by omega)]
   rw[hn];go_enter Tryz.func47,Tryz.ntmps47;go_wp2;go_ret;exact⟨rfl,(Fr.refl [] w).alloc _⟩
  ·have hk:k=0∨k=1∨k=2∨k=3∨k=4:=by omega
   clear h0 h4;rcases hk with rfl|rfl|rfl|rfl|rfl
   all_goals
    go_enter Tryz.func47,Tryz.ntmps47
    go_wp2
    go_ret
    exact⟨rfl,(Fr.refl [] w).alloc _⟩
theorem qn4 {m:Nat} (h:9<m):Lib.decDigits m=Lib.decDigits (m/10)++[UInt8.ofNat (48+m%10)]:=by rw[Lib.decDigits,dif_neg (by omega)]
theorem qif {m:Nat} (h:¬9<m):Lib.decDigits m=[UInt8.ofNat (48+m)]:=by rw[Lib.decDigits,dif_pos (by omega)]
theorem digb (x:Nat) (h:x<10):((UInt8.ofNat (48+x)).toNat:Nat)=48+x:=by rw[qb6];omega
theorem que (N:Nat) (w:World) (hN:N≤140737488355328):Calls Tryz.prog 48 #[.int .i64 N] w λe w'=>e = .returned (.string (str (Lib.decDigits N)))∧Fr [] w w':=by
 go_enter Tryz.func48,Tryz.ntmps48;go_wp2;go_loopg [0,3] N (λk s0 s3 wr=>∃(m:Nat) (t:List UInt8),s0 = .int .i64 (m:Nat)∧s3 = .string (str t)∧m≤k∧t.length+m≤N∧Lib.decDigits m++t=Lib.decDigits N∧Fr [] w wr);case atStart=>exact⟨N,[],rfl,rfl,qag _,by simp,by simp,Fr.refl _ _⟩
 case round=>
  obtain⟨m,t,rfl,rfl,hk,hm,he,hf⟩:=hrel;have H:=zhd2 he hf;clear he hf;have htz:(str t).size=t.length:=by simp[str,ByteArray.size]
  have HN:=zhd hm;have htb:t.length≤140737488355328:=by omega
  have hmb:m≤140737488355328:=by omega
  obtain⟨T,hT⟩:=zex (str t);rw[<-hT]at htz ⊢;have hTs:T.size≤140737488355328:=by omega
  have HTT:=zhd hT;clear htz hm hT htb;by_cases h9:9<m
  ·obtain⟨z,hz⟩:=zex (str [UInt8.ofNat (48+m%10)]);have hzs:z.size=1:=by rw[hz];rfl
   have cv:∀c,(convert 22 9 (.slice (some ⟨wr.heap.size,0,none⟩) 1 c)).run Tryz.prog (wr.alloc (.cells #[.int .u8 (48+(m:Int)%10)] 5)) = .ok (.string z) (wr.alloc (.cells #[.int .u8 (48+(m:Int)%10)] 5)):=by
    rw[hz];exact qer _ Tryz.underlying22 Tryz.underlying5 Tryz.underlying9 (ao:=some ⟨wr.heap.size,0,none⟩) (n:=1) rfl (.inr ⟨wr.heap.size,0,rfl,λj u hj=>by
     rw[cell_of (qa4 wr _)]
     cases j with
     | zero=>simp only[qak,qap,qaa,bv,digb _ (show m%10<10 by omega)]at hj;rw[<-hj];simp
     | succ j=>simp at hj⟩)
   have HZ:=zhd hz;clear hz;go_wp2;go_roundg (m/10);case measure=>omega
   case rel=>exact⟨m/10,[UInt8.ofNat (48+m%10)]++t,by go_num,by rw[HZ.out,HTT.out,qcz],qag _,by have:=HN.out;simp;omega,by rw[<-qat,<-qn4 h9];exact H.o0,H.l1.alloc _⟩
  ·obtain⟨z,hz⟩:=zex (str [UInt8.ofNat (48+m)]);have hzs:z.size=1:=by rw[hz];rfl
   have cv:∀c,(convert 22 9 (.slice (some ⟨wr.heap.size,0,none⟩) 1 c)).run Tryz.prog (wr.alloc (.cells #[.int .u8 (48+(m:Int))] 5)) = .ok (.string z) (wr.alloc (.cells #[.int .u8 (48+(m:Int))] 5)):=by
    rw[hz];exact qer _ Tryz.underlying22 Tryz.underlying5 Tryz.underlying9 (ao:=some ⟨wr.heap.size,0,none⟩) (n:=1) rfl (.inr ⟨wr.heap.size,0,rfl,λj u hj=>by
     rw[cell_of (qa4 wr _)]
     cases j with
     | zero=>simp only[qak,qap,qaa,bv,digb _ (show m<10 by omega)]at hj;rw[<-hj];simp
     | succ j=>simp at hj⟩)
   have HZ:=zhd hz;clear hz;go_wp2;go_ret;exact⟨by rw[<-H.o0,qif h9,<-qcz,<-HZ.out,<-HTT.out];rfl,H.l1.alloc _⟩
def header (k:Int) (n:Nat):List UInt8:=kname k++[32]++Lib.decDigits n++[0]
theorem qib (k:Int):(kname k).length≤6:=by unfold kname;repeat (split<;>first|decide|skip)
theorem zdw (n:Nat):(Lib.decDigits n).length≤n+1:=by
 induction n using Nat.strongRecOn with
 | _ n ih=>
  by_cases h:9<n
  ·rw[qn4 h,qab];have:=ih (n/10) (by omega);simp only[qam,qbb];omega
  ·rw[qif h];simp
theorem qrb:∀(k n:Nat),0<k→n<10^k→(Lib.decDigits n).length≤k
 | 0,n,h,_=>by omega
 | k+1,n,_,hn=>by
  by_cases h:9<n
  ·rw[qn4 h,qab];have h1:n/10<10^k:=by rw[qcr]at hn;omega
   have hk:0<k:=by
    rcases Nat.eq_zero_or_pos k with rfl|hk
    ·simp at h1;omega
    ·exact hk
   have:=qrb k (n/10) hk h1;simp only[qam,qbb];omega
  ·rw[qif h];simp
theorem qe5 (k:Int) (n:Nat) (hn:n≤140737488355328):(header k n).length≤24:=by
 have h1:=qib k;have h2:=qrb 16 n (by decide) (by
  have:10^16=10000000000000000:=by decide
  omega)
 unfold header;simp only[qab,qam,qbb];omega
theorem qqf (k:Int) (n:Nat) (w:World) (hn:n≤140737488355328):Calls Tryz.prog 20 #[.int .i64 k,.int .i64 n] w λe w'=>e = .returned (.string (str (header k n)))∧Fr [] w w':=by
 obtain⟨A,hA⟩:=zex (str (kname k));obtain⟨D,hD⟩:=zex (str (Lib.decDigits n));have hAs:A.size≤6:=by have:=qib k;rw[hA];simpa[str,ByteArray.size] using this
 have hDs:D.size≤140737488355329:=by
  have:=zdw n;have e:(str (Lib.decDigits n)).size=(Lib.decDigits n).length:=by simp[str,ByteArray.size]
  rw[hD,e];omega
 have h1:=λw'=>qvr k w'
 have h2:=λw'=>que n w' (by omega)
 rw[<-hA]at h1;rw[<-hD]at h2;have H:=zhd4 h1 h2 hA hD;clear h1 h2 hA hD;go_enter Tryz.func20,Tryz.ntmps20;go_wp2_with (first
  | (go_at_call 47;refine (H.o0 _).mono ?_;rintro e w1 ⟨rfl,f1⟩)
  | (go_at_call 48;refine (H.o1 _).mono ?_;rintro e w2 ⟨rfl,f2⟩)
  | (refine qj5 (n:Int) rfl _ _ _ rfl (n:Int) 0 rfl rfl (by split<;>omega) ?_))
 go_ret;have e1:({ data:=#[32] }:ByteArray)=str [32]:=rfl;have e0:({ data:=#[0] }:ByteArray)=str [0]:=rfl;exact⟨by unfold header;rw[<-qcz,<-qcz,<-qcz,<-H.o2,<-H.l3,<-e1,<-e0];rfl,f1.trans f2⟩
end Go.Proofs.YtbabjlohkniciaaGreatDoor.obj
namespace Go.Proofs.YtbabjlohkniciaaGreatDoor.lo
open Go obj
def fz:List UInt8→Option Nat
 | []=>none
 | b::t=>if b=0 then some 0 else (fz t).map (·+1)
theorem qn0:∀{s:List UInt8} {i:Nat},fz s=some i→s[i]?=some 0∧∀j,j<i→∃c,s[j]?=some c∧c≠0
 | [],i,h=>by cases h
 | b::t,i,h=>by
  rw[fz]at h;split at h
  ·rename_i hb;obtain rfl:=qa2 h;exact⟨by rw[hb];rfl,λj hj=>absurd hj (Nat.not_lt_zero j)⟩
  ·rename_i hb;cases ht:fz t with
   | none=>rw[ht]at h;cases h
   | some k=>
    rw[ht]at h;simp only[qgg,qas]at h;subst h;obtain⟨h1,h2⟩:=qn0 ht;refine⟨by simpa using h1,λj hj=>?_⟩;cases j with
    | zero=>exact⟨b,rfl,hb⟩
    | succ j=>simpa using h2 j (by omega)
theorem zdq:∀{s:List UInt8} {i:Nat},s[i]?=some 0→(∀j,j<i→∃c,s[j]?=some c∧c≠0)→fz s=some i
 | [],i,h,_=>by cases h
 | b::t,0,h,_=>by
  rw[fz,if_pos (by simpa using h)]
 | b::t,i+1,h,h2=>by
  obtain⟨c,hc,hne⟩:=h2 0 (by omega);have hb:b≠0:=by simp at hc;rw[hc];exact hne
  rw[fz,if_neg hb,zdq (s:=t) (i:=i) (by simpa using h) (λj hj=>by simpa using h2 (j+1) (by omega))];rfl
theorem zcx {s:List UInt8} (h:fz s=none):∀c∈s,c≠0:=by
 induction s with
 | nil=>simp
 | cons b t ih=>
  rw[fz]at h;split at h
  ·cases h
  ·rename_i hb;intro c hc;rcases qaw.1 hc with rfl|hc
   ·exact hb
   ·refine ih ?_ c hc;cases ht:fz t with
    | none=>rfl
    | some k=>rw[ht]at h;cases h
theorem qpl:∀n,∀c∈Lib.decDigits n,48≤c.toNat∧c.toNat≤57:=by
 intro n;induction n using Nat.strongRecOn with
 | ind n ih=>
  intro c hc;by_cases h:9<n
  ·rw[qn4 h,qbd,qaz]at hc;rcases hc with hc|rfl
   ·exact ih (n/10) (by omega) c hc
   ·rw[qb6];omega
  ·rw[qif h,qaz]at hc;subst hc;rw[qb6];omega
theorem qq0 (k:Int):∀c∈kname k,97≤c.toNat∧c.toNat≤122:=by unfold kname;repeat (split<;>first|decide|skip)
theorem qpf (k:Int) (m:Nat):∃h,header k m=h++[0]∧∀c∈h,c≠0:=by
 refine⟨kname k++[32]++Lib.decDigits m,rfl,λc hc h0=>?_⟩;subst h0;rcases qbd.1 hc with hc|hc
 ·rcases qbd.1 hc with hc|hc
  ·have:=(qq0 k 0 hc).1;revert this;decide
  ·simp at hc
 ·have:=(qpl m 0 hc).1;revert this;decide
theorem qxf {s:List UInt8} {k:Int} {m n:Nat} (h:header k m=s.take n):fz s=some ((header k m).length-1)∧(n=(header k m).length∨s.length<n):=by
 obtain⟨t,ht,hne⟩:=qpf k m;have hl:(header k m).length=t.length+1:=by rw[ht];simp
 have hp:∀j,j<t.length+1→s[j]?=(t++[0])[j]?:=λj hj=>by
  have h1:=congrArg (λl=>l[j]?) h;rw[ht]at h1;simp only[qbl]at h1;split at h1
  ·exact h1.symm
  ·rw[qaf (by simp;omega)]at h1;cases h1
 refine⟨?_,?_⟩
 ·rw[hl,qeo];refine zdq (by rw[hp _ (by omega)];simp) λj hj=>?_
  rw[hp j (by omega),qcc hj,qaf hj];exact⟨_,rfl,hne _ (qb7 hj)⟩
 ·have h2:=congrArg List.length h;rw[qar]at h2;omega
def lkind (s:List UInt8):Option (Nat×Nat):=match fz s with
 | none=>none
 | some i=>([1,2,3,4].find? λk:Nat=>header k (s.length-(i+1))==s.take (i+1)).map λk=>(k,i+1)
theorem qle {j k:Nat} (hj:1≤j∧j≤4) (hk:1≤k∧k≤4) {s a b:List UInt8} (h1:s=kname j++[32]++a) (h2:s=kname k++[32]++b):j=k:=by obtain⟨j1,j2⟩:=hj;obtain⟨k1,k2⟩:=hk;have h:=h1.symm.trans h2;rcases (show j=1∨j=2∨j=3∨j=4 by omega) with rfl|rfl|rfl|rfl<;>rcases (show k=1∨k=2∨k=3∨k=4 by omega) with rfl|rfl|rfl|rfl<;>first|rfl|(simp[kname]at h)
theorem qmk {s:List UInt8} {k n:Nat} (h:lkind s=some (k,n)):1≤k∧k≤4∧n≤s.length∧header k (s.length-n)=s.take n:=by
 unfold lkind at h;split at h
 ·cases h
 ·rename_i i hi;cases hf:([1,2,3,4].find? λk:Nat=>header k (s.length-(i+1))==s.take (i+1)) with
  | none=>rw[hf]at h;cases h
  | some q=>rw[hf]at h;simp only[qgg,qas,qa1]at h;obtain⟨rfl,rfl⟩:=h;have h1:=List.find?_some hf;have h2:=List.mem_of_find?_eq_some hf;have h3:=(qbg.1 (qn0 hi).1).1;simp only[beq_iff_eq]at h1;simp only[qaw,qby,or_false]at h2;exact⟨by omega,by omega,by omega,h1⟩
theorem qse {s:List UInt8} {k n:Nat} (hk:1≤k∧k≤4) (hn:n≤s.length) (h:header k (s.length-n)=s.take n):lkind s=some (k,n):=by
 obtain⟨h1,h2⟩:=qxf h;obtain⟨t,ht,_⟩:=qpf k (s.length-n);have hl:(header k (s.length-n)).length=t.length+1:=by rw[ht];simp
 have hn2:n=t.length+1:=by omega
 rw[hl,qeo]at h1;unfold lkind;rw[h1];have e:([1,2,3,4].find? λj:Nat=>header j (s.length-(t.length+1))==s.take (t.length+1))=some k:=by
  rw[<-hn2];have hu:∀j:Nat,1≤j∧j≤4→(header j (s.length-n)==s.take n)=true→j=k:=λj hj e=>by have e1:header j (s.length-n)=header k (s.length-n):=(beq_iff_eq.1 e).trans h.symm;exact qle (s:=header j (s.length-n)) (a:=Lib.decDigits (s.length-n)++[0]) (b:=Lib.decDigits (s.length-n)++[0]) hj hk (by unfold header;simp) (by rw[e1];unfold header;simp)
  have hh:(header k (s.length-n)==s.take n)=true:=by rw[h];simp
  have hf:∀j:Nat,1≤j∧j≤4→j≠k→(header j (s.length-n)==s.take n)=false:=λj hj hne=>by
   cases hb:(header j (s.length-n)==s.take n) with
   | false=>rfl
   | true=>exact absurd (hu j hj hb) hne
  obtain⟨k1,k2⟩:=hk;rcases (show k=1∨k=2∨k=3∨k=4 by omega) with rfl|rfl|rfl|rfl
  ·simp only[qec,hh]
  ·simp only[qec,hh,hf 1 (by decide) (by decide)]
  ·simp only[qec,hh,hf 1 (by decide) (by decide),hf 2 (by decide) (by decide)]
  ·simp only[qec,hh,hf 1 (by decide) (by decide),hf 2 (by decide) (by decide),hf 3 (by decide) (by decide)]
 dsimp only;rw[e,hn2];rfl
theorem qt5 {k:Nat} (hk:1≤k∧k≤4) (b:List UInt8):lkind (header k b.length++b)=some (k,(header k b.length).length):=
 qse hk (by rw[qab];omega) (by rw[qab,Nat.add_sub_cancel_left,List.take_left' rfl])
def scan:List UInt8→Nat→Option (Option Nat)
 | [],_=>some none
 | c::t,i=>if c=0 then some (some i) else if c.toNat<48∨57<c.toNat then none else scan t (i+1)
theorem qvk:∀{t:List UInt8} {i n:Nat},scan t i=some (some n)→i≤n∧n<i+t.length
 | [],i,n,h=>by cases h
 | c::t,i,n,h=>by
  rw[scan]at h;split at h
  ·simp only[qas]at h;subst h;simp
  ·split at h
   ·cases h
   ·have:=qvk h;simp only[qam];omega
theorem qks:∀(d rest:List UInt8) (i:Nat),(∀c∈d,48≤c.toNat∧c.toNat≤57)→scan (d++0::rest) i=some (some (i+d.length))
 | [],rest,i,_=>by rw[qck,scan,if_pos rfl];rfl
 | c::t,rest,i,h=>by
  have hc:=h c (by simp);have h0:c≠0:=by rintro rfl;exact absurd hc.1 (by decide)
  rw[qc3,scan,if_neg h0,if_neg (by omega),qks t rest (i+1) (λx hx=>h x (qbw _ hx)),qam];congr 2;omega
def pre (k:Nat):List UInt8:=kname k++[32]
def phead (s:List UInt8):Option (Nat×Nat):=match [1,2,3,4].find? λk=>(pre k).isPrefixOf s with
 | none=>none
 | some k=>match scan (s.drop (pre k).length) 0 with
  | some (some i)=>if header k (s.length-((pre k).length+i+1))=s.take ((pre k).length+i+1) then some (k,(pre k).length+i+1) else none
  | _=>none
theorem qr3 {s:List UInt8} {k:Nat} (hk:1≤k∧k≤4) {a:List UInt8} (h:s=pre k++a):([1,2,3,4].find? λk=>(pre k).isPrefixOf s)=some k:=by
 have hh:(pre k).isPrefixOf s=true:=by rw[List.isPrefixOf_iff_prefix,h];exact List.prefix_append _ _
 have hf:∀j:Nat,1≤j∧j≤4→j≠k→(pre j).isPrefixOf s=false:=λj hj hne=>by
  cases hb:(pre j).isPrefixOf s with
  | false=>rfl
  | true=>obtain⟨b,hb⟩:=List.isPrefixOf_iff_prefix.1 hb;exact absurd (qle hj hk hb.symm h) hne
 obtain⟨k1,k2⟩:=hk;rcases (show k=1∨k=2∨k=3∨k=4 by omega) with rfl|rfl|rfl|rfl
 ·simp only[qec,hh]
 ·simp only[qec,hh,hf 1 (by decide) (by decide)]
 ·simp only[qec,hh,hf 1 (by decide) (by decide),hf 2 (by decide) (by decide)]
 ·simp only[qec,hh,hf 1 (by decide) (by decide),hf 2 (by decide) (by decide),hf 3 (by decide) (by decide)]
theorem qr4 (s:List UInt8):phead s=lkind s:=by
 cases hl:lkind s with
 | some kn=>
  obtain⟨k,n⟩:=kn;obtain⟨h1,h2,h3,h4⟩:=qmk hl;have hs:s=pre k++(Lib.decDigits (s.length-n)++0::s.drop n):=by
   conv=>lhs;rw[<-qep n s,<-h4]
   unfold header pre;simp
  have hn:n=(pre k).length+(Lib.decDigits (s.length-n)).length+1:=by
   have h5:=congrArg List.length h4;rw[qar,qcs h3]at h5;have h6:(header k (s.length-n)).length=(pre k).length+(Lib.decDigits (s.length-n)).length+1:=by unfold header pre;simp only[qab,qam,qbb]
   omega
  unfold phead;rw[qr3 ⟨h1,h2⟩ hs];dsimp only;have hd:s.drop (pre k).length=Lib.decDigits (s.length-n)++0::s.drop n:=by
   conv=>lhs;rw[hs]
   rw[List.drop_left' rfl]
  rw[hd,qks _ _ _ (qpl _),qbe];dsimp only;rw[<-hn,if_pos h4]
 | none=>
  cases hp:phead s with
  | none=>rfl
  | some kn=>
   exfalso;obtain⟨k,n⟩:=kn;unfold phead at hp;split at hp
   ·cases hp
   ·rename_i k' hk;have h2:=List.mem_of_find?_eq_some hk;simp only[qaw,qby,or_false]at h2;split at hp
    ·rename_i i hi;split at hp
     ·rename_i he;simp only[qas,qa1]at hp;obtain⟨rfl,rfl⟩:=hp;have h3:=(qvk hi).2;rw[qau]at h3;rw[qse (by omega) (by omega) he]at hl;cases hl
     ·cases hp
    ·cases hp
def rkind (s:List UInt8):Option (Nat×Nat):=match fz s with
 | none=>none
 | some i=>if i<40 then ([1,2,3,4].find? λk:Nat=>header k (s.length-(i+1))==s.take (i+1)).map λk=>(k,i+1) else none
theorem qzf (s:List UInt8) (hl:s.length≤140737488355328):rkind s=lkind s:=by
 unfold rkind lkind;cases hi:fz s with
 | none=>rfl
 | some i=>
  dsimp only;by_cases h40:i<40
  ·rw[if_pos h40]
  ·rw[if_neg h40];have e:([1,2,3,4].find? λk:Nat=>header k (s.length-(i+1))==s.take (i+1))=none:=by rw[qjq];intro k hk hb;have h1:=congrArg List.length (beq_iff_eq.1 hb);have h2:=qe5 k (s.length-(i+1)) (by omega);have h3:=(qbg.1 (qn0 hi).1).1;rw[qar]at h1;omega
   rw[e];rfl
def lparse (b:List UInt8):Nat×List UInt8×Nat:=match inf.izlib b 65568 with
 | .error e=>(0,[],e)
 | .ok (out,used)=>if used=b.length then (match lkind out with
  | none=>(0,[],3)
  | some (k,n)=>if 65536<out.length-n then (0,[],5) else (k,out.drop n,0)) else (0,[],3)
end Go.Proofs.YtbabjlohkniciaaGreatDoor.lo
