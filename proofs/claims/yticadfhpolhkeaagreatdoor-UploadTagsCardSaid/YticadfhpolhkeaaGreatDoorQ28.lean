/-
  Texts of this proof, one behind the other: RefTab, LawIds, LawOpen, LawMade, LawBegins, UpWord, UpServe, UpAwake, LawTags, LawWalk.
-/
import Derived.Test.YticadfhpolhkeaaGreatDoorQ27
set_option maxHeartbeats 16000000
set_option maxRecDepth 100000
set_option linter.unusedVariables false
set_option linter.unusedSimpArgs false
namespace Go.Proofs.YticadfhpolhkeaaGreatDoor
namespace ob
open Go Go.RowKit lib fs lo pk
variable {k x:Nm} {t:Nm->Option (List UInt8)} {rs:List Rf} {m:Int} {w:World} {F O R r:Nat} {lab:Nat->Option Lb}
structure eP (t:Nm->Option (List UInt8)) (rs:List Rf):Prop where
 refs:∀k,Lib.hasPrefix k oz=true->t k≠none->k∈rs.map (·.1)
 each:∀x∈rs,t x.1=some (x.2++[10])/\kP x.2/\∃fh,mP x.1 fh
 packed:t gC=none
 nop:iZ t
theorem W6 (h:Lib.hasPrefix x oA=true):Lib.hasPrefix x oz=true:=by unfold Lib.hasPrefix at h ⊢;simp only[oA,oz]at h ⊢;rcases x with _|⟨a,_|⟨b,_|⟨c,_|⟨d,r⟩⟩⟩⟩<;>simp_all
theorem pK.tab (h:pK t):eP t []:=⟨λk hk hn=>absurd (h.refs k hk) hn,(λx hx=>by cases hx),h.packed,h.nop⟩
theorem eP.side (h:eP t rs) (hx:GV x) (v:Option (List UInt8)):eP (aS t x v) rs:=by
 refine⟨λk hk hn=>?_,λy hy=>?_,?_,λk hk=>?_⟩
 ·unfold fs.aS at hn;rw[if_neg (λe=>by rw[e,hx.refs]at hk;cases hk)]at hn;exact h.refs k hk hn
 ·obtain⟨h1,h2,fh,h3⟩:=h.each y hy;refine⟨?_,h2,fh,h3⟩;unfold fs.aS;rw[if_neg (λe=>by have:=W6 h3.pre;rw[e,hx.refs]at this;cases this)];exact h1
 ·unfold fs.aS;rw[if_neg (λe=>hx.packed e.symm)];exact h.packed
 ·unfold fs.aS;rw[if_neg (λe=>by rw[e,hx.nop]at hk;cases hk)];exact h.nop k hk
theorem eP.add (h:eP t rs) {nm id:Nm} {fh:List Nm} (hn:mP nm fh) (hi:kP id) (bg:nm∉rs.map (·.1)) (hp:gC≠nm) (FR:Lib.hasPrefix nm kV=false):eP (aS t nm (some (id++[10]))) (rs++[(nm,id)]):=by
 refine⟨λk hk hn=>?_,λy hy=>?_,?_,λk hk=>?_⟩
 ·unfold fs.aS at hn;rw[jd,jo];by_cases e:k=nm
  ·exact .inr (by simp[e])
  ·rw[if_neg e]at hn;exact .inl (h.refs k hk hn)
 ·rcases jo.1 hy with hy|hy
  ·obtain⟨h1,h2,p,h3⟩:=h.each y hy;refine⟨?_,h2,p,h3⟩;unfold fs.aS;rw[if_neg (λe=>bg (by rw[<-e];exact Ix hy))];exact h1
  ·obtain rfl:=eF.1 hy;exact⟨by unfold fs.aS;rw[if_pos rfl],hi,fh,hn⟩
 ·unfold fs.aS;rw[if_neg hp];exact h.packed
 ·unfold fs.aS;rw[if_neg (λe=>by rw[e]at hk;exact absurd (hk.symm.trans FR) (by decide))];exact h.nop k hk
theorem eP.no (h:eP t rs) (h1:Lib.hasPrefix k oz=true) (h2:Lib.hasPrefix k oA=false):t k=none:=by
 cases ht:t k with
 | none=>rfl
 | some v=>obtain⟨x,hx,e⟩:=mU.1 (h.refs k h1 (by rw[ht];simp));obtain⟨_,_,fh,h3⟩:=h.each x hx;have:=h3.pre;rw[e]at this;exact absurd (this.symm.trans h2) (by decide)
theorem eP.idle (h:eP t rs):Idle t:=⟨h.no (by decide) (by decide),h.no (by decide) (by decide),h.no (by decide) (by decide)⟩
theorem eP.ok (h:eP t rs) (hf:JL rs) (hs:(rs.map (·.1)).Pairwise (·<=·)) (hd:(rs.map (·.1)).Nodup):mO t rs:=by
 refine⟨h.packed,hf,λss hl=>?_,h.each⟩;have hp:(ss.filter λs=>Lib.hasPrefix s oA).Perm (rs.map (·.1)):=by
  refine (List.perm_ext_iff_of_nodup (hl.1.filter _) hd).2 λx=>?_
  rw[C8];constructor
  ·rintro⟨h1,h2⟩;exact h.refs x (W6 h2) ((hl.2.2 x).1 h1)
  ·intro hx;obtain⟨y,hy,e⟩:=mU.1 hx;obtain⟨h1,_,fh,h3⟩:=h.each y hy;subst e;exact⟨(hl.2.2 _).2 (by rw[h1];simp),h3.pre⟩
 exact hp.eq_of_pairwise (λa b _ _ h1 h2=>List.le_antisymm h1 h2) (hl.2.1.filter _) hs
set_option maxRecDepth 100000
def bD:Nm:=aO 1 (lD 1 [109])
def yA:Nm:=[118,49]
def wV:Nm:=[65,32,60,97,62,32,49,32,43,48,48,48,48]
def jV:Nm:=jS bD yA wV [116]
def eC:Nm:=aO 4 jV
def fe:Nm:=[114,101,102,115,47,116,97,103,115,47,118,49]
theorem OJ:aO 2 []≠bD/\bD≠iD/\bD≠eC/\aO 2 []≠eC/\eC≠iD:=by decide +kernel
theorem Xn:mP fe [[114,101,102,115],[116,97,103,115],[118,49]]:=
 ⟨by decide,by decide,by decide,by rfl,by rfl,by decide,by decide,by decide,by decide,by decide⟩
theorem qxk:rj aP:=⟨by rfl,by decide,⟨by decide,by decide,by decide⟩,by decide⟩
theorem qyq:rj fe:=⟨by rfl,by decide,⟨by decide,by decide,by decide⟩,by decide⟩
theorem YJ:dT 1=Bs [115,116,101,109,109,97] [115,116,101,109,109,97,64,108,111,99,97,108] (48+1).toUInt8:=by kernel_rfl
theorem RF:pJ (aO 2 []) [] (dT 1) (dT 1) [109]:=by
 have hp:=λw=>qq3 [115,116,101,109,109,97] [115,116,101,109,109,97,64,108,111,99,97,108] 1 (by decide) ⟨by decide,by decide,by decide⟩ ⟨by decide,by decide,by decide⟩ (by decide) (by decide) w
 rw[<-YJ]at hp;refine⟨Al _ _,by simp,by simp,by simp,⟨?_,bP (Ps 1 (by decide)) (by decide)⟩,⟨?_,bP (Ps 1 (by decide)) (by decide)⟩,by decide,hp,hp,λw=>Pa (s:=[109]) (bad:=[0]) ⟨by decide,by decide,by decide⟩ (by decide) w⟩<;>(rw[YJ];decide)
theorem zgt:wV=Bs [65] [97] (48+1).toUInt8:=by kernel_rfl
theorem Xv:wP bD yA wV [116]:=by
 have hp:=λw=>qq3 [65] [97] 1 (by decide) ⟨by decide,by decide,by decide⟩ ⟨by decide,by decide,by decide⟩ (by decide) (by decide) w
 rw[<-zgt]at hp;exact⟨Al _ _,⟨by decide,by decide,by decide⟩,by decide,by decide,hp,λw=>Pa (s:=[116]) (bad:=[0]) ⟨by decide,by decide,by decide⟩ (by decide) w⟩
theorem ZE:jV.length<=200:=by have h:bD.length=40:=nU _ _;unfold jV jS;simp[ln,nZ,qF,jE,sR,fT,yA,wV,h]
theorem Y9:und aP aP=false/\und fe fe=false/\und aP fe=false/\und fe aP=false:=by decide
set_option maxRecDepth 100000
def ou:Nm->Option (List UInt8):=aS (λ_=>none) kX (some (gf aP))
theorem Kh (h:k≠kX):ou k=none:=by unfold ou fs.aS;rw[if_neg h]
theorem qyy:pK ou:=by refine⟨λk hk=>Kh (λe=>?_),Kh (by decide),λk hk=>Kh (λe=>?_)⟩<;>(rw[e]at hk;exact absurd hk (by decide))
def GZ (m:Int) (w:World) (e:Ending) (w':World):Prop:=∃F r O R lab,e = .returned (.tuple #[.pointer (some ⟨F,0,none⟩),.pointer (some ⟨r,0,none⟩)])/\Rp w' r O R F 2 4000 ou lab m/\Fr [] w w'/\∀x,x<w.heap.size->lab x=none
theorem Y8 (m:Int) (w:World) (hm:w.cell? ⟨2,0,none⟩=some (.int .i64 m)) (eH:obj.Pw w) :
  Calls Tryz.prog 4 #[] w (GZ m w):=by
 have bZ:Calls Tryz.prog 11 #[.int .i64 4194304] w λe w1=>∃F,e = .returned (.tuple #[.pointer (some ⟨F,0,none⟩),.int .i64 0])/\Calls Tryz.prog 12 #[.pointer (some ⟨F,0,none⟩)] w1 λe w'=>∃r O R lab,e = .returned (.tuple #[.pointer (some ⟨r,0,none⟩),.int .i64 0])/\Rp w' r O R F 2 4000 ou lab m/\Fr [] w w'/\∀x,x<w.heap.size->lab x=none:=by
  refine (WZ 4194304 (by decide) w).mono ?_;rintro e w1 ⟨F,lab,he,h1,hl,f1⟩;have h2:=h1.more (M':=4000) (eE _) (by decide);refine⟨F,he,(qzj F 0 4000 _ lab m w1 h2 (λ_=>rfl) (by decide) (by decide) (by decide) (f1.cell hm (by simp))).mono ?_⟩;rintro e w2 ⟨r,O,R,av,he,iU,_,tG,h3,s⟩;have f2:Fr [] w w2:=by obtain⟨⟨T,f,hT⟩,_⟩:=s;exact f1.step f (λx hx=>.inr (hl x (hT x hx)))
  have mg:∀x,x<w.heap.size->av x=none:=λx hx=>by
   cases hq:av x with
   | none=>rfl
   | some v=>
    rcases s.2 x (by rw[hq];simp) with h|h
    ·have:=hl x h;omega
    ·have:=f1.size;omega
  have bF:=World.block_lt_of_cell? w _ hm;have jq:3<w.heap.size:=by
   have hp:=eH;unfold obj.Pw Lib.TabIs World.var? at hp;rw[W7]at hp;simp only[Option.bind_some]at hp;rcases kT 3 w.heap.size with h'|h'
   ·exact h'
   ·rw[J8 h']at hp;cases hp
  exact⟨r,O,R,av,he,⟨iU,tG,h3,⟨f2.cell hm (by simp),mg _ bF⟩,(Ss eH (lab:=λ_=>none) rfl (dS.refl w _ f2)).1,mg _ jq,qyy.nop⟩,f2,mg⟩
 unfold GZ;have H:=af bZ;clear bZ hm eH;go_enter Tryz.func4,Tryz.ntmps4;go_wp2_with (first
  | (go_at_call 11;go_loud (refine H.out.mono ?_;rintro e w1 ⟨F,rfl,ho⟩;have H1:=af ho;clear ho))
  | (go_at_call 12;go_loud (refine H1.out.mono ?_;rintro e w2 ⟨r,O,R,lab,rfl,h2⟩;have H2:=af h2;clear h2)))
 go_ret2;exact⟨F,r,O,R,lab,rfl,H2.out⟩
set_option maxRecDepth 100000
structure Lw (w:World) (r O R F n:Nat) (t:Nm->Option (List UInt8)) (lab:Nat->Option Lb) (m:Int) (rs:List Rf):Prop where
 rp:Rp w r O R F n 4000 t lab m
 tab:eP t rs
 tree:Has t 2 []
 com:Has t 1 (lD 1 [109])
 hd:t kX=some (gf aP)
theorem Lw.fr {w w':World} {r O R F n:Nat} {t:Nm->Option (List UInt8)} {lab:Nat->Option Lb} {m:Int} {rs:List Rf} (h:Lw w r O R F n t lab m rs) (f:Fr [] w w'):Lw w' r O R F n t lab m rs:=⟨h.rp.fr f,h.tab,h.tree,h.com,h.hd⟩
theorem EN (k:Int) (body:LB) (x:UInt8) (y:LB) (h:111≠x):az (aO k body)≠x::y:=by have ho:=Al k body;unfold az;rw[if_pos ho.hash];intro e;exact h (EI e).1
theorem Ks (k k':Int) (a b:LB):tmps++aO k a≠az (aO k' b):=λe=>EN k' b 116 _ (by decide) e.symm
theorem KB {k k':Int} {a b:LB} (h:aO k a≠aO k' b):az (aO k a)≠az (aO k' b):=λe=>h (zdy (Al _ _).hash (Al _ _).hash e)
theorem Ig {v:Option (List UInt8)} (h:t k=none) (hx:k≠x):aS t x v k=none:=by unfold aS;rw[if_neg hx];exact h
theorem J6 {v u:Option (List UInt8)} (h:t k=u) (hx:k≠x):aS t x v k=u:=by unfold aS;rw[if_neg hx];exact h
theorem qxp (h:Rp w r O R F 2 4000 ou lab m) :
  Calls Tryz.prog 6 #[.pointer (some ⟨r,0,none⟩),.string (str aP),.slice none 0 0,.string (str [109]),.int .i64 (1:Nat)] w λe w'=>e = .returned (.tuple #[.string (str bD),.int .i64 0])/\∃t' av,Lw w' r O R F 11 t' av m [(aP,bD)]/\t' (az eC)=none/\t' (tmps++eC)=none/\dS w lab w' av:=by
 obtain⟨n1,n2,n3,n4,n5⟩:=OJ;have hl:(lD 1 [109]).length<=400:=by decide +kernel
 have p1:∀(k:Int) (b:LB),az (aO k b)≠aP:=λk b=>EN k b 114 _ (by decide)
 have q0:∀(k:Int) (b:LB),ou (az (aO k b))=none:=λk b=>Kh (EN k b 72 _ (by decide))
 have q1:∀(k:Int) (b:LB),ou (tmps++aO k b)=none:=λk b=>Kh (λe=>absurd (EI e).1 (by decide))
 refine (qw3 h qyy aP _ 1 [109] RF (by decide) n1 n2 OY (by decide) Y9.1 qxk (by decide) (by decide) ⟨p1 _ _,p1 _ _⟩ ⟨q0 _ _,q1 _ _⟩ ⟨q0 _ _,q1 _ _⟩ ⟨λe=>KB n1 e.symm,Ks _ _ _ _⟩ hl (by decide) (by decide) (by decide) (by decide)).mono ?_;rintro e w' ⟨he,av,z1,z2,⟨k1,k2,k3⟩,s⟩;refine⟨he,_,av,⟨k1,(((qyy.aS (yM 2 []) _).aS (yM 1 _) _).tab.add OY (Al _ _) (by simp) (by decide) (by decide):eP _ ([]++[(aP,bD)])),k2,k3,?_⟩,?_,?_,s⟩
 ·exact J6 (J6 (J6 (by unfold ou aS;rw[if_pos rfl]) (EN _ _ 72 _ (by decide)).symm) (EN _ _ 72 _ (by decide)).symm) (by decide)
 ·exact Ig (Ig (Ig (q0 _ _) (KB n4).symm) (KB n3).symm) (p1 _ _)
 ·exact Ig (Ig (Ig (q1 _ _) (Ks _ _ _ _)) (Ks _ _ _ _)) (λe=>absurd (EI e).1 (by decide))
theorem zhk (h:Lw w r O R F 11 t lab m [(aP,bD)]) (h1:t (az eC)=none) (h2:t (tmps++eC)=none) (a:OA) (cap:Nat) (hb:lib.Rd w a cap jV) :
  Calls Tryz.prog 7 #[.pointer (some ⟨O,0,none⟩),.int .i64 (4:Nat),.slice a jV.length cap] w λe w'=>e = .returned (.tuple #[.string (str eC),.int .i64 0])/\∃t' av,Lw w' r O R F 13 t' av m [(aP,bD)]/\Has t' 4 jV/\dS w lab w' av:=by
 obtain⟨n1,n2,n3,n4,n5⟩:=OJ;have hl:=ZE;refine (Sr O F 11 4000 4000 t lab 4 a cap jV w h.rp.box.store h.rp.fs h.rp.nop (by decide) hb (by omega) h.rp.pw h1 h2 (ax _) (by omega) (by decide) (by omega) (by decide)).mono ?_;rintro e w' ⟨he,av,z,hz,h3,s⟩;refine⟨he,_,av,⟨h.rp.step h3 s (h.tab.side (yM 4 _) _).nop,h.tab.side (yM 4 _) _,h.tree.aS (KB n4) _,h.com.aS (KB n3) _,?_⟩,Has.put (by decide) (by omega) hz,s⟩;exact J6 h.hd (EN _ _ 72 _ (by decide)).symm
theorem zeh (h:Lw w r O R F 13 t lab m [(aP,bD)]) (ht:Has t 4 jV) (la:OA) (hc:Cs w la [.string (str fe),.string (str []),.string (str eC)]) (eh:∀x∈ag la,lab x=none) :
  Calls Tryz.prog 8 #[.pointer (some ⟨r,0,none⟩),.slice la 1 1] w λe w'=>e = .returned (.tuple #[.int .i64 1,.int .i64 0])/\∃t' av,Lw w' r O R F 18 t' av m [(aP,bD),(fe,eC)]/\Has t' 4 jV/\dS w lab w' av:=by
 obtain⟨n1,n2,n3,n4,n5⟩:=OJ;have hs:wQ w r (aO 4 jV):=λw1 ra f bR=>zb4 (h.rp.fr f) RF h.com h.tree n1 eC (nU _ _) n3 n4 yA wV [116] (λw2 f2=>XB ((h.rp.fr f).fr f2) Xv ht) ra 1 bR 4096 (by decide)
 have hu:=Y9;have hf:Fits [(aP,bD)] fe [] eC [[114,101,102,115],[116,97,103,115],[118,49]]:=by
  refine⟨Xn,.inl rfl,Al _ _,n5,λx hx=>?_,λs hs=>?_,by decide⟩
  ·obtain rfl:=eF.1 hx;decide
  ·rcases jo.1 hs with hs|hs
   ·obtain rfl:s=aP:=by simpa using hs
    exact⟨hu.2.2.1,hu.2.2.2,by decide⟩
   ·obtain rfl:s=fe:=by simpa using hs
    exact⟨hu.2.1,hu.2.1,by decide⟩
 refine (Zk h.rp [(aP,bD)] la 1 fe [] _ 4 jV hs ht (λh=>absurd h (by decide)) (h.tab.ok ⟨by decide,λx y e=>by cases e⟩ (by simp) (by simp)) hf qyq h.tab.idle (by decide) (by decide) (by decide) ⟨hc⟩ eh (by decide) (by decide) (by decide) (by decide)).mono ?_;rintro e w' ⟨he,av,k,s⟩;have hp:∀(k:Int) (b:LB),az (aO k b)≠fe:=λk b=>EN k b 114 _ (by decide)
 exact⟨he,_,av,⟨k,h.tab.add Xn (Al _ _) (by simp;decide) (by decide) (by decide),h.tree.aS (hp _ _) _,h.com.aS (hp _ _) _,J6 h.hd (by decide)⟩,ht.aS (hp _ _) _,s⟩
set_option maxRecDepth 100000
theorem zey (s p:Nm) (h:p.length<=s.length):(s.take p.length==p)=Lib.hasPrefix s p:=by
 unfold Lib.hasPrefix;induction p generalizing s with
 | nil=>simp
 | cons a p ih=>
  cases s with
  | nil=>simp at h
  | cons b s=>
   have h2:=ih s (by simpa using h);simp only[dw,lh];show ((b==a)&&(s.take p.length==p))=_;rw[h2];show _=((a==b)&&List.isPrefixOf p s);congr 1;by_cases e:a=b
   ·subst e;rfl
   ·have:(a==b)=false:=by simpa using e
    have h3:(b==a)=false:=by simpa using λh=>e h.symm
    rw[this,h3]
theorem zez (s p:Nm) (h:s.length<p.length):Lib.hasPrefix s p=false:=by unfold Lib.hasPrefix;rw[Bool.eq_false_iff];intro e;have:=(Oz.1 e).length_le;omega
theorem qtx (s p:Nm) (X:Nat) (hp:p.length<=100000) (hs:s.length<=100000) (w:World) (h:w.cell? ⟨X,0,none⟩=some (.string (str p))) :
  Calls Tryz.prog 10 #[.string (str s),.pointer (some ⟨X,0,none⟩)] w λe w'=>e = .returned (.bool (Lib.hasPrefix s p))/\Fr [] w w':=by
 have cZ:=aj s;have AP:=aj p;have hsl:=λ(h:p.length<=s.length) w=>Ox s p.length h w
 obtain⟨Z,hZ⟩:=ah (str s);obtain⟨P,hP⟩:=ah (str p);rw[<-hZ]at cZ hsl ⊢;rw[<-hP]at AP h;by_cases hle:p.length<=s.length
 ·have hh:=zey s p hle;obtain⟨b,hb⟩:=ah (Lib.hasPrefix s p);rw[<-hb]at hh ⊢;obtain⟨T,hT⟩:=ah (str (s.take p.length));have he:(T.toList==P.toList)=b:=by rw[hT,hP,ay,ay];exact hh
  have qo:=hsl hle;rw[<-hT]at qo;obtain⟨n,hn⟩:=ah p.length;obtain⟨k,hk⟩:=ah s.length;rw[<-hn]at qo AP hle;rw[<-hk]at cZ hle;have hd:decide ((n:Int)<=(k:Int))=true:=by simp;omega
  clear hsl hh hb hZ hP hT hn hk hp hs;go_enter Tryz.func10,Tryz.ntmps10;go_wp2;go_quiet (fail);go_wp2;go_ret;exact⟨rfl,Fr.drewN [] _ _⟩
 ·rw[zez s p (by omega)];have hd:decide ((p.length:Int)<=(s.length:Int))=false:=by simp;omega
  obtain⟨n,hn⟩:=ah p.length;obtain⟨k,hk⟩:=ah s.length;rw[<-hn,<-hk]at hd hle;rw[<-hn]at AP;rw[<-hk]at cZ;have bF:k<n:=by omega
  clear hsl hZ hP hn hk hp hs;go_enter Tryz.func10,Tryz.ntmps10;go_wp2;go_quiet (fail);go_wp2;go_ret;exact⟨rfl,Fr.drewN [] _ _⟩
open pkt
set_option maxRecDepth 100000
def ja (bs:LB) (w:World) (e:Ending) (w':World):Prop:=∃a,e = .returned (.slice a bs.length bs.length)/\Cs w' a (bs.map bv)/\Fr [] w w'
theorem qlg (ao:OA) (cap:Nat) (ls:List Lv) (bs:LB) (w:World) (L:jU w ao cap ls) (he:enc (ls.map Lv.ln)=(bs,0)) (tJ:Ai (ls.map Lv.ln)<=2199023255552) :
  Calls Tryz.prog 41 #[.slice ao ls.length cap] w (ja bs w):=by
 have Cv:=qxx ao cap ls w L tJ;unfold kF at Cv;rw[he]at Cv;unfold ja;obtain⟨n,hn⟩:=ah bs.length;obtain⟨N,hN⟩:=ah ls.length;have M8:Calls Tryz.prog 88 #[.slice ao N cap] w λe w'=>∃a,e = .returned (.tuple #[.slice a n n,.int .i64 0])/\Cs w' a (bs.map bv)/\Fr [] w w':=by
  rw[hN,hn];refine Cv.mono λe w' ⟨a,k,h1,h2,h3,_,f⟩=>?_
  have h2:bs.length=k:=h2;subst h2;exact⟨a,h1,h3,f⟩
 have H:=af M8;rw[<-hn,<-hN];clear Cv M8 he hn hN L tJ;go_enter Tryz.func41,Tryz.ntmps41;go_wp2_with (go_at_call 88;go_loud (refine H.out.mono ?_;rintro e w1 ⟨a,rfl,h1⟩;have H1:=af h1;clear h1));go_ret;exact⟨a,rfl,H1.out⟩
theorem Z0 (ls:List Lv) (w:World) (h:∀x∈ls,x.Ok w) (hl:ls.length<=1000):jU (w.alloc (.cells (bK ls).toArray 46)) (some ⟨w.heap.size,0,none⟩) ls.length ls:=
 ⟨.inr ⟨w.heap.size,0,rfl,λj u hj=>by rw[cell_of (aV w _)];simpa using hj⟩,ax _,(λh=>by cases h),(by unfold maxLen;omega),λx hx=>(h x hx).fr ((Fr.refl [] w).alloc _)⟩
theorem ZS (w:World):Lv.Ok w ⟨2,none,0,[]⟩:=⟨.inl rfl,ax _,λ_=>rfl,eE _⟩
theorem IC {w:World} {a:OA} {bs:Nm} (h:lib.Rd w a bs.length bs):Lv.Ok w ⟨1,a,bs.length,bs⟩:=⟨h.cs,ax _,h.nil,h.max⟩
def tX:Nm:=[69,82,82,32,102,111,114,109,10]
def xH:Nm:=[48,48,48,100,69,82,82,32,102,111,114,109,10,48,48,48,48]
theorem qt7 (w:World):Calls Tryz.prog 44 #[.string ⟨#[102,111,114,109]⟩] w (ja xH w):=by
 have e0:(⟨#[69,82,82,32]⟩++⟨#[102,111,114,109]⟩:ByteArray)=str [69,82,82,32,102,111,114,109]:=(gH [69,82,82,32] [102,111,114,109]).trans rfl;have ht:=λw=>Ap _ _ tX e0 rfl (by decide) w
 unfold mz at ht;rw[show tX.length=9 from rfl]at ht;clear e0;have hw:∀(w:World) (a:OA),lib.Rd w a 9 tX->Calls Tryz.prog 41 #[.slice (some ⟨w.heap.size,0,none⟩) 2 2] (w.alloc (.cells #[.int .i64 1,.slice a 9 9,.int .i64 2,.slice none 0 0] 46)) (ja xH (w.alloc (.cells #[.int .i64 1,.slice a 9 9,.int .i64 2,.slice none 0 0] 46))):=λw a hr=>by
  refine qlg (some ⟨w.heap.size,0,none⟩) 2 [⟨1,a,9,tX⟩,⟨2,none,0,[]⟩] xH _ (Z0 [⟨1,a,9,tX⟩,⟨2,none,0,[]⟩] w (λx hx=>?_) (by simp)) (by show enc [((1:Int),tX),(2,[])]=_;decide) (by simp[Ai,Lv.ln,tX]);simp only[eX,mV,or_false]at hx;rcases hx with rfl|rfl
  ·exact IC (bs:=tX) hr
  ·exact ZS w
 have xy:=ZR;unfold ja at hw ⊢;have H:=aq ht xy hw;clear ht xy hw;go_enter Tryz.func44,Tryz.ntmps44;go_wp2_with (first
  | (go_at_call 33;go_loud (refine (H.o0 _).mono ?_;rintro e w1 ⟨a,rfl,r1,f1,n1⟩;have H1:=ai r1 f1;clear r1 f1 n1))
  | (go_at_call 42;go_loud (refine (H.o1 _).mono ?_;rintro e w2 ⟨rfl,f2⟩;have H2:=af f2;clear f2))
  | (go_at_call 41;go_loud ((with_reducible refine (H.l2 _ _ (H1.o0.fr H2.out)).mono ?_);rintro e w3 ⟨b,rfl,c3,f3⟩;have H3:=ai c3 f3;clear c3 f3)))
 go_ret;exact⟨b,rfl,H3.o0,((H1.l1.trans H2.out).alloc _).trans H3.l1⟩
set_option maxRecDepth 100000
theorem xj:(Tryz.prog.info? 104).map (·.size)=some 3:=by kernel_rfl
theorem qpf {fn:Func} {p u:Tmp} (h:fn.results=#[.cell p 104,.tmp u]) (tmps:AV) (w:World) (g:Nat) (cs:AV) (fr:Nat×Nat)
  (hp:tmps.getD p undef = .pointer (some ⟨g,0,none⟩)) (hg:w.heap[g]?=some (.cells cs 104 fr)) (hs:cs.size=3) :
  (results fn tmps).run Tryz.prog w = .ok (.tuple #[.agg cs,tmps.getD u undef]) w:=by
 rw[results_cell_tmp h];have h1:=run_loadVar_row (P:=Tryz.prog) w g 104 104 cs fr _ hg Tryz.underlying104 rfl (by rw[xj,hs]);simp only[hp,asAddr,Sem.run_pure,EP,h1]
theorem qys (r:Nat) (w:World):Calls Tryz.prog 43 #[.pointer (some ⟨r,0,none⟩),.slice none 0 0] w λe w'=>e = .returned (.tuple #[.agg #[.pointer (some ⟨r,0,none⟩),.slice none 0 0,.slice none 0 0],.string ⟨#[102,111,114,109]⟩])/\Fr [] w w':=by
 have hd:∀w,Calls Tryz.prog 89 #[.slice none 0 0] w λe w'=>∃a,e = .returned (.tuple #[.slice a 0 0,.int .i64 0,.int .i64 0])/\Fr [] w w':=λw=>by
  refine (qx0 none 0 [] w (ax _) (by decide) (λ_=>rfl) (.inl rfl) (by decide)).mono ?_;rintro e w' ⟨a,ls,he,_,rJ,f⟩;have e0:pkt.decode []=([],0,0):=by decide
  rw[e0]at he rJ;obtain rfl:ls=[]:=List.map_eq_nil_iff.1 rJ;exact⟨a,he,f⟩
 have H:=af hd;clear hd;obtain⟨k,hk⟩:=ah w.heap.size;obtain⟨w1,aJ⟩:=ah ((w.alloc (Obj.cells #[Value.pointer none,Value.slice none 0 0,Value.slice none 0 0] 104)).alloc (Obj.cells #[Value.pointer (some ⟨r,0,none⟩),Value.slice none 0 0,Value.slice none 0 0] 104));have f1:Fr [] w w1:=by rw[aJ];exact ((Fr.refl [] w).alloc _).alloc _
 have b0:w1.heap[k]?=some (.cells #[Value.pointer none,Value.slice none 0 0,Value.slice none 0 0] 104 (0,0)):=by rw[aJ,hk];exact alloc_old _ (aV w _)
 have b1:w1.heap[k+1]?=some (.cells #[Value.pointer (some ⟨r,0,none⟩),Value.slice none 0 0,Value.slice none 0 0] 104 (0,0)):=by rw[aJ,hk];have:=aV (w.alloc (Obj.cells #[Value.pointer none,Value.slice none 0 0,Value.slice none 0 0] 104)) (Obj.cells #[Value.pointer (some ⟨r,0,none⟩),Value.slice none 0 0,Value.slice none 0 0] 104);simpa using this
 have cZ:w.heap.size<=k:=Ex hk.symm;have HW:=cU aJ hk f1 b0 b1 cZ;clear aJ hk f1 b0 b1 cZ;go_enter Tryz.func43,Tryz.ntmps43;go_upto_region 2 with fail;rw[<-HW.o0,<-HW.o1];go_upto_region 5 with (go_at_call 89;go_loud (refine (H.out _).mono ?_;rintro e w2 ⟨a,rfl,f2⟩;have H2:=af f2;clear f2));have hB:=H2.out.ag HW.o3 (by simp);have hC:=H2.out.ag HW.o4 (by simp);have c0:=(cell_of hC 0).trans (show _=some (Value.pointer (some ⟨r,0,none⟩)) from rfl);have c1:=(cell_of hC 1).trans (show _=some (Value.slice none 0 0) from rfl);have c2:=(cell_of hC 2).trans (show _=some (Value.slice none 0 0) from rfl);have a0:=(cell_of hB 0).trans (show _=some (Value.pointer none) from rfl);have a1:=(cell_of hB 1).trans (show _=some (Value.slice none 0 0) from rfl);have a2:=(cell_of hB 2).trans (show _=some (Value.slice none 0 0) from rfl);have z0:=aT hB 0;have z1:=aT hB 1;have z2:=aT hB 2;have H3:=af hB;clear hB hC;go_wp2;(try simp only[Exit.inBlock,Exit.then]);have kY:(((w2.setCell ⟨k,0,none⟩ (.pointer (some ⟨r,0,none⟩))).setCell ⟨k,1,none⟩ (.slice none 0 0)).setCell ⟨k,2,none⟩ (.slice none 0 0)).heap[k]?=some (.cells #[.pointer (some ⟨r,0,none⟩),.slice none 0 0,.slice none 0 0] 104 (0,0)):=(df (df (df H3.out _) _) _).trans rfl;refine bodyPost_ret (qpf rfl _ _ k _ (0,0) rfl kY rfl) rfl ?_;have NR:Fr [k] w2 (((w2.setCell ⟨k,0,none⟩ (.pointer (some ⟨r,0,none⟩))).setCell ⟨k,1,none⟩ (.slice none 0 0)).setCell ⟨k,2,none⟩ (.slice none 0 0)):=(((Fr.refl [k] w2).setCell (by simp) _).setCell (by simp) _).setCell (by simp) _;exact⟨rfl,(HW.o2.trans H2.out).step NR λx hx=>.inr (by simp at hx;have:=HW.l5;omega)⟩
theorem qzc (r:Nat) (w:World):Calls Tryz.prog 15 #[.pointer (some ⟨r,0,none⟩),.slice none 0 0] w (ja xH w):=by
 have hr:=qys r w;have hf:=qt7;unfold ja at hf ⊢;simp only[show xH.length=17 from rfl]at hf ⊢;have H:=ai hr hf;clear hr hf;go_enter Tryz.func15,Tryz.ntmps15;go_wp2_with (first
  | (go_at_call 43;go_loud (refine H.o0.mono ?_;rintro e w1 ⟨rfl,f1⟩;have H1:=af f1;clear f1))
  | (go_at_call 44;go_loud (refine (H.l1 _).mono ?_;rintro e w2 ⟨a,rfl,c2,f2⟩;have H2:=ai c2 f2;clear c2 f2)))
 go_ret;exact⟨a,rfl,H2.o0,(H1.out.alloc _).trans H2.l1⟩
def iT:Nm:=[48,48,48,101,118,101,114,115,105,111,110,32,50,10,48,48,49,49,97,103,101,110,116,61,115,116,101,109,109,97,10,48,48,48,99,108,115,45,114,101,102,115,10,48,48,48,97,102,101,116,99,104,10,48,48,49,55,111,98,106,101,99,116,45,102,111,114,109,97,116,61,115,104,97,49,10,48,48,48,48]
def jC:Nm:=[118,101,114,115,105,111,110,32,50,10]
def jB:Nm:=[97,103,101,110,116,61,115,116,101,109,109,97,10]
def jA:Nm:=[108,115,45,114,101,102,115,10]
def jz:Nm:=[102,101,116,99,104,10]
def jy:Nm:=[111,98,106,101,99,116,45,102,111,114,109,97,116,61,115,104,97,49,10]
theorem qpx (w:World) (a0 a1 a2 a3 a4:OA) (h0:lib.Rd w a0 10 jC) (h1:lib.Rd w a1 13 jB) (h2:lib.Rd w a2 8 jA) (h3:lib.Rd w a3 6 jz) (h4:lib.Rd w a4 19 jy) :
  Calls Tryz.prog 41 #[.slice (some ⟨w.heap.size,0,none⟩) 6 6] (w.alloc (.cells #[.int .i64 1,.slice a0 10 10,.int .i64 1,.slice a1 13 13,.int .i64 1,.slice a2 8 8,.int .i64 1,.slice a3 6 6,.int .i64 1,.slice a4 19 19,.int .i64 2,.slice none 0 0] 46)) (ja iT (w.alloc (.cells #[.int .i64 1,.slice a0 10 10,.int .i64 1,.slice a1 13 13,.int .i64 1,.slice a2 8 8,.int .i64 1,.slice a3 6 6,.int .i64 1,.slice a4 19 19,.int .i64 2,.slice none 0 0] 46))):=by
 refine qlg (some ⟨w.heap.size,0,none⟩) 6 [⟨1,a0,10,jC⟩,⟨1,a1,13,jB⟩,⟨1,a2,8,jA⟩,⟨1,a3,6,jz⟩,⟨1,a4,19,jy⟩,⟨2,none,0,[]⟩] iT _ (Z0 [⟨1,a0,10,jC⟩,⟨1,a1,13,jB⟩,⟨1,a2,8,jA⟩,⟨1,a3,6,jz⟩,⟨1,a4,19,jy⟩,⟨2,none,0,[]⟩] w (λx hx=>?_) (by simp)) (by show enc [((1:Int),jC),((1:Int),jB),((1:Int),jA),((1:Int),jz),((1:Int),jy),(2,[])]=_;decide +kernel) (by simp[Ai,Lv.ln,jC,jB,jA,jz,jy]);simp only[eX,mV,or_false]at hx;rcases hx with rfl|rfl|rfl|rfl|rfl|rfl
 ·exact IC (bs:=jC) h0
 ·exact IC (bs:=jB) h1
 ·exact IC (bs:=jA) h2
 ·exact IC (bs:=jz) h3
 ·exact IC (bs:=jy) h4
 ·exact ZS w
theorem zev (w:World):Calls Tryz.prog 14 #[] w (ja iT w):=by
 have AH:=λw=>Ap ⟨#[118,101,114,115,105,111,110,32,50]⟩ [118,101,114,115,105,111,110,32,50] jC rfl rfl (by decide) w
 unfold mz at AH;rw[show jC.length=10 from rfl]at AH;have AG:=λw=>Ap ⟨#[97,103,101,110,116,61,115,116,101,109,109,97]⟩ [97,103,101,110,116,61,115,116,101,109,109,97] jB rfl rfl (by decide) w
 unfold mz at AG;rw[show jB.length=13 from rfl]at AG;have ye:=λw=>Ap ⟨#[108,115,45,114,101,102,115]⟩ [108,115,45,114,101,102,115] jA rfl rfl (by decide) w
 unfold mz at ye;rw[show jA.length=8 from rfl]at ye;have Fz:=λw=>Ap ⟨#[102,101,116,99,104]⟩ [102,101,116,99,104] jz rfl rfl (by decide) w
 unfold mz at Fz;rw[show jz.length=6 from rfl]at Fz;have DN:=λw=>Ap ⟨#[111,98,106,101,99,116,45,102,111,114,109,97,116,61,115,104,97,49]⟩ [111,98,106,101,99,116,45,102,111,114,109,97,116,61,115,104,97,49] jy rfl rfl (by decide) w
 unfold mz at DN;rw[show jy.length=19 from rfl]at DN;have xy:=ZR;have hw:=qpx;unfold ja at hw ⊢;simp only[show iT.length=80 from rfl]at hw ⊢;have H:=eW hw AH AG ye Fz DN xy;clear hw xy AH AG ye Fz DN;go_enter Tryz.func14,Tryz.ntmps14;go_wp2_with (first
  | (go_at_call 33;(with_reducible refine (H.o1 _).mono ?_);rintro e w0 ⟨a0,rfl,Yu,f0,n0⟩;have F0:=af (f0);clear f0 n0)
  | (go_at_call 33;(with_reducible refine (H.o2 _).mono ?_);rintro e w1 ⟨a1,rfl,Yp,f1,n1⟩;have Yt:=Yu.fr f1;have F1:=af (F0.out.trans f1);clear f1 n1 Yu)
  | (go_at_call 33;(with_reducible refine (H.o3 _).mono ?_);rintro e w2 ⟨a2,rfl,Yk,f2,n2⟩;have Ys:=Yt.fr f2;have Yo:=Yp.fr f2;have F2:=af (F1.out.trans f2);clear f2 n2 Yt Yp)
  | (go_at_call 33;(with_reducible refine (H.o4 _).mono ?_);rintro e w3 ⟨a3,rfl,Yh,f3,n3⟩;have Yr:=Ys.fr f3;have Yn:=Yo.fr f3;have Yj:=Yk.fr f3;have F3:=af (F2.out.trans f3);clear f3 n3 Ys Yo Yk)
  | (go_at_call 33;(with_reducible refine (H.o5 _).mono ?_);rintro e w4 ⟨a4,rfl,Yf,f4,n4⟩;have Yq:=Yr.fr f4;have Ym:=Yn.fr f4;have Yi:=Yj.fr f4;have Yg:=Yh.fr f4;have F4:=af (F3.out.trans f4);clear f4 n4 Yr Yn Yj Yh)
  | (go_at_call 42;go_loud (refine (H.l6 _).mono ?_;rintro e w5 ⟨rfl,f5⟩;have r05:=Yq.fr f5;have r15:=Ym.fr f5;have r25:=Yi.fr f5;have r35:=Yg.fr f5;have r45:=Yf.fr f5;have F5:=af (F4.out.trans f5);clear f5 Yq Ym Yi Yg Yf))
  | (go_at_call 41;go_loud ((with_reducible refine (H.o0 _ a0 a1 a2 a3 a4 r05 r15 r25 r35 r45).mono ?_);rintro e w9 ⟨b,rfl,c9,f9⟩;have H9:=ai c9 f9;clear c9 f9)))
 go_ret;exact⟨b,rfl,H9.o0,(F5.out.alloc _).trans H9.l1⟩
set_option maxRecDepth 100000
def Gi:List Ln:=[(1,jC),(1,jB),(1,jA),(1,jz),(1,jy),(2,[])]
theorem za5:pkt.decode iT=(Gi,80,0):=by decide +kernel
theorem zfs (m:Int) (w:World) (hm:w.cell? ⟨2,0,none⟩=some (.int .i64 m)) (eH:obj.Pw w) :
  Calls Tryz.prog 5 #[] w λe w'=>e = .returned (.bool true)/\Fr [] w w':=by
 have ho:=Y8 m w hm eH;unfold GZ at ho;have hh:∀w,Calls Tryz.prog 14 #[] w λe w'=>∃a,e = .returned (.slice a 80 80)/\(convert 35 9 (.slice a 80 80)).run Tryz.prog w' = .ok (.string (str iT)) w'/\Fr [] w w':=λw=>(zev w).mono λe w' ⟨a,he,hc,f⟩=>⟨a,he,xX w' Tryz.underlying35 Tryz.underlying5 Tryz.underlying9 (bs:=iT) rfl hc 80,f⟩
 have hs:∀r w,Calls Tryz.prog 15 #[.pointer (some ⟨r,0,none⟩),.slice none 0 0] w λe w'=>∃a,e = .returned (.slice a 17 17)/\(convert 35 9 (.slice a 17 17)).run Tryz.prog w' = .ok (.string ⟨#[48,48,48,100,69,82,82,32,102,111,114,109,10,48,48,48,48]⟩) w'/\Fr [] w w':=λr w=>(qzc r w).mono λe w' ⟨a,he,hc,f⟩=>⟨a,he,xX w' Tryz.underlying35 Tryz.underlying5 Tryz.underlying9 (bs:=xH) rfl hc 17,f⟩
 have hd:∀w,Calls Tryz.prog 13 #[.string (str iT)] w λe w'=>∃g o c,e = .returned (.agg #[.slice (some ⟨g,o,none⟩) 6 c,.int .i64 80,.int .i64 0])/\(w'.cell? ⟨g,o+1,none⟩=some (.string ⟨#[118,101,114,115,105,111,110,32,50,10]⟩)/\w'.cell? ⟨g,o+7,none⟩=some (.string ⟨#[102,101,116,99,104,10]⟩)/\w'.cell? ⟨g,o+10,none⟩=some (.int .i64 2))/\(6<=c/\c<=maxLen)/\Fr [] w w':=λw=>by refine (zfe iT w (by decide)).mono ?_;rintro e w' ⟨a,n,c,he,hn,hc,hle,hmx,f⟩;rw[za5]at he hn hc;obtain rfl:6=n:=hn;obtain⟨g,o,rfl,hh⟩:=hc.at (by decide);exact⟨g,o,c,he,⟨hh 1 _ rfl,hh 7 _ rfl,hh 10 _ rfl⟩,⟨hle,hmx⟩,f⟩
 obtain⟨B,hB⟩:=ah (str iT);rw[<-hB]at hh hd;have H:=aA ho hh hd hs;clear ho hh hd hs hm eH hB;go_enter Tryz.func5,Tryz.ntmps5;go_upto_region 5 with (first
  | (go_at_call 4;go_loud (refine H.o0.mono ?_;rintro e w1 ⟨F,r,O,R,lab,rfl,_,f1,_⟩;have G1:=af f1;clear f1))
  | (go_at_call 14;go_loud (refine (H.o1 _).mono ?_;rintro e w2 ⟨a,rfl,hcv,f2⟩;have G2:=af (G1.out.trans f2);clear f2))
  | (go_at_call 13;go_loud (refine (H.o2 _).mono ?_;rintro e w3 ⟨g,o,c,rfl,⟨d1,d7,d10⟩,pU,f3⟩;have G3:=af (G2.out.trans f3);clear f3)))
 have fa:Fr [] w3 (w3.alloc (.cells #[.slice (some ⟨g,o,none⟩) 6 c,.int .i64 80,.int .i64 0] 54)):=(Fr.refl [] w3).alloc _;have e1:=fa.cell d1 (by simp);have e7:=fa.cell d7 (by simp);have Wq:=fa.cell d10 (by simp);have m0:=(cell_of (aV w3 (.cells #[.slice (some ⟨g,o,none⟩) 6 c,.int .i64 80,.int .i64 0] 54)) 0).trans (show _=some (Value.slice (some ⟨g,o,none⟩) 6 c) from rfl);have HM:=aA m0 e1 e7 Wq;clear fa e1 e7 Wq m0 d1 d7 d10 hcv;go_wp2_with (go_at_call 15;go_loud (refine (H.l3 _ _).mono ?_;rintro e w4 ⟨b,rfl,hcv,f4⟩;have m0:=f4.cell HM.o0 (by simp);have e1:=f4.cell HM.o1 (by simp);have e7:=f4.cell HM.o2 (by simp);have Wq:=f4.cell HM.l3 (by simp);have G4:=af ((G3.out.alloc _).trans f4)));go_ret;exact⟨rfl,G4.out⟩
set_option maxRecDepth 100000
structure Bx (w0 w:World) (lab:Nat->Option Lb) (X:Nat) (P:ByteArray):Prop where
 off:lab X=none
 ag:w.heap[X]?=some (.cells #[.string P] 9 (0,0))
 fr:Fr [] w0 w
 low:∀x,lab x≠none->w0.heap.size<=x
theorem Bx.step {w0 w w':World} {lab av:Nat->Option Lb} {X:Nat} {P:ByteArray} (h:Bx w0 w lab X P) (s:dS w lab w' av):Bx w0 w' av X P:=by
 refine⟨BA s h.off (lt_of_block h.ag),Da s h.off h.ag,?_,λx hx=>?_⟩
 ·obtain⟨⟨T,f,hT⟩,_⟩:=s;exact h.fr.step f λx hx=>.inr (h.low x (hT x hx))
 ·rcases s.2 x hx with k|k
  ·exact h.low x k
  ·exact bP h.fr.size k
theorem Bx.cell {w0 w:World} {lab:Nat->Option Lb} {X:Nat} {P:ByteArray} (h:Bx w0 w lab X P):w.cell? ⟨X,0,none⟩=some (.string P):=(cell_of h.ag 0).trans rfl
def sP (p:Nm) (sy:Bool):Nm:=if Lib.hasPrefix mq p=true then (if sy=true then bD++dG++(pZ++aP) else bD++dG)++[10] else []
def sO (p:Nm):Nm:=if Lib.hasPrefix aP p=true then bD++[32]++aP++[10] else []
def sN (p:Nm) (pe:Bool):Nm:=if Lib.hasPrefix fe p=true then (if pe=true then eC++[32]++fe++(kU++bD) else eC++[32]++fe)++[10] else []
abbrev two:List Rf:=[(aP,bD),(fe,eC)]
theorem zcy (p:Nm) (sy pe:Bool) (ls:List Lv) (h:ls.map Lv.ln=eJ p aP bD sy++two.flatMap (eQ p pe λ_=>bD)) :
  ls.flatMap (·.bs)=sP p sy++sO p++sN p pe/\(∀x∈ls,x.kind=1/\x.bs.length<=300)/\ls.length<=3:=by
 have hn:=OJ.2.2.1;have CM:bD.length=40:=nU _ _;have t40:eC.length=40:=nU _ _;have e1:ls.flatMap (·.bs)=(ls.map Lv.ln).flatMap (·.2):=by rw[List.flatMap_map];rfl
 have e2:(eJ p aP bD sy).flatMap (·.2)=sP p sy:=by unfold eJ sP;split<;>simp
 have e3:(eQ p pe (λ_=>bD) (aP,bD)).flatMap (·.2)=sO p:=by unfold eQ sO;simp only[ne_eq,not_true_eq_false,and_false,if_false];split<;>simp
 have e4:(eQ p pe (λ_=>bD) (fe,eC)).flatMap (·.2)=sN p pe:=by unfold eQ sN;simp only[ne_eq,hn,not_false_eq_true,and_true];split<;>simp
 have eN:ls.length<=3:=by
  have e:=congrArg List.length h;have l1:(eJ p aP bD sy).length<=1:=by unfold eJ;split<;>simp
  have l2:∀x,(eQ p pe (λ_=>bD) x).length<=1:=λx=>by unfold eQ;split<;>simp
  have l3:=l2 (aP,bD);have l4:=l2 (fe,eC);rw[gx,aG]at e;simp only[two,qd,List.flatMap_nil,nX,aG]at e;omega
 refine⟨?_,λx hx=>?_,eN⟩
 ·rw[e1,h,yQ,e2];simp only[two,qd,List.flatMap_nil,nX,yQ,e3,e4,fU]
 ·have hm:x.ln∈eJ p aP bD sy++two.flatMap (eQ p pe λ_=>bD):=by rw[<-h];exact Ix hx
  have hk:∀y∈eJ p aP bD sy++two.flatMap (eQ p pe λ_=>bD),y.1=1/\y.2.length<=300:=by
   intro y hy;simp only[two,qd,List.flatMap_nil,nX,jo]at hy;have m15:aP.length=15:=rfl;have v12:fe.length=12:=rfl;have s15:pZ.length=15:=rfl;have p8:kU.length=8:=rfl;have h5:dG.length=5:=rfl;rcases hy with hy|hy|hy
   ·unfold eJ at hy;split at hy
    ·obtain rfl:=eF.1 hy;refine⟨rfl,?_⟩;split<;>simp only[aG,dw,jK,CM,m15,s15,h5]<;>omega
    ·cases hy
   ·unfold eQ at hy;split at hy
    ·obtain rfl:=eF.1 hy;refine⟨rfl,?_⟩;split<;>simp only[aG,dw,jK,CM,m15,p8]<;>omega
    ·cases hy
   ·unfold eQ at hy;split at hy
    ·obtain rfl:=eF.1 hy;refine⟨rfl,?_⟩;split<;>simp only[aG,dw,jK,CM,t40,v12,p8]<;>omega
    ·cases hy
  exact hk _ hm
theorem zec {w:World} {r O R F:Nat} {t:Nm->Option (List UInt8)} {lab:Nat->Option Lb} {m:Int} (h:Lw w r O R F 18 t lab m two) (ht:Has t 4 jV) (p:Nm) (ao:OA) (c:Nat) (hcs:Cs w ao [.string (str p)]) (sy pe:Bool) :
  Calls Tryz.prog 9 #[.pointer (some ⟨r,0,none⟩),.slice ao 1 c,.bool sy,.bool pe] w λe w'=>∃a ls,e = .returned (.slice a ls.length ls.length)/\jU w' a ls.length ls/\ls.map Lv.ln=eJ p aP bD sy++two.flatMap (eQ p pe λ_=>bD)/\Fr [] w w':=by
 have fV:mO t two:=h.tab.ok ⟨by decide,λx y e=>by injection e with e1 e2;injection e2 with e2 _;subst e1;subst e2;decide⟩ (by simp;decide) (by simp;decide);have ct:=λw1 (f:Fr [] w w1)=>RE R F 18 4000 t lab two m w1 (h.rp.fr f).box.refs (h.rp.fr f).fs fV (h.rp.fr f).mx.cell
 have yj:=λw1 (f:Fr [] w w1)=>Sb (h.rp.fr f) RF h.com
 have Ns:=λw1 (f:Fr [] w w1)=>XB (h.rp.fr f) Xv ht
 refine qyr r R p aP bD ao c sy pe two (λ_=>bD) w hcs ((cell_of h.rp.box.box 1).trans rfl) (λw1 f=>zhv R F 18 4000 t lab aP _ m w1 (h.rp.fr f).box.refs (h.rp.fr f).fs h.hd OY (h.rp.fr f).mx.cell) (λw1 f=>qnj R (aP,bD) [(fe,eC)] (by decide) w1 (ct w1 f)) (λw1 f=>zei R two w1 (by decide) λw2 f2=>ct w2 (f.trans f2)) (λx hx w1 f=>?_) ?_ (by decide)
 ·simp only[two,eX,mV,or_false]at hx;rcases hx with rfl|rfl
  ·exact zdw r bD _ _ _ _ w1 λw2 f2=>yj w2 (f.trans f2)
  ·exact zdv r eC bD _ _ _ _ _ _ _ w1 (λw2 f2=>Ns w2 (f.trans f2)) λw2 f2=>yj w2 (f.trans f2)
 ·refine⟨by decide,by rw[show bD.length=40 from nU _ _];decide,λx hx=>?_⟩;simp only[two,eX,mV,or_false]at hx;have CM:bD.length=40:=nU _ _;have t40:eC.length=40:=nU _ _;rcases hx with rfl|rfl
  ·exact⟨by decide,by simp only;omega,by omega⟩
  ·exact⟨by decide,by simp only;omega,by omega⟩
set_option maxRecDepth 100000
theorem qo2 (pe sy:Bool) (P:ByteArray) (zbL:P.size<=9223372036854775807) (m:Int) (w:World) (hm:w.cell? ⟨2,0,none⟩=some (.int .i64 m)) (eH:obj.Pw w) :
  Calls Tryz.prog 3 #[.bool pe,.bool sy,.string P] w λe w'=>e = .returned (.bool true)/\Fr [] w w':=by
 obtain⟨w0,kz⟩:=ah (w.alloc (.cells #[.string P] 9));obtain⟨X,hX⟩:=ah w.heap.size;have f0:Fr [] w w0:=by rw[kz];exact (Fr.refl [] w).alloc _
 have bX:w0.heap[X]?=some (.cells #[.string P] 9 (0,0)):=by rw[kz,hX];exact aV w _
 have c0:w0.cell? ⟨X,0,none⟩=some (.string P):=(cell_of bX 0).trans rfl;have ho:Calls Tryz.prog 4 #[] w0 λe w'=>∃F r O R lab,e = .returned (.tuple #[.pointer (some ⟨F,0,none⟩),.pointer (some ⟨r,0,none⟩)])/\Rp w' r O R F 2 4000 ou lab m/\Bx w w' lab X P:=by
  refine (Y8 m w0 (f0.cell hm (by simp)) ((Ss eH (lab:=λ_=>none) rfl (dS.refl w _ f0)).1)).mono ?_;rintro e w1 ⟨F,r,O,R,lab,he,h,f,oX⟩;refine⟨F,r,O,R,lab,he,h,oX X (lt_of_block bX),f.ag bX (by simp),f0.trans f,λx hx=>?_⟩;rcases kT x w0.heap.size with k|k
  ·exact absurd (oX x k) hx
  ·exact bP f0.size k
 have QP:∀{w:World} {r O R F n:Nat} {t:Nm->Option (List UInt8)} {lab:Nat->Option Lb},Rp w r O R F n 4000 t lab m->Calls Tryz.prog 5 #[] w λe w'=>e = .returned (.bool true)/\Fr [] w w':=λh=>zfs m _ h.mx.cell h.pw
 have HW:=aq kz hX c0;by_cases hlen:P.size<=100
 ·obtain⟨p,hp⟩:∃p:Nm,p=P.data.toList:=⟨_,rfl⟩;have QW:P=str p:=by rw[hp];rfl
  have jq:p.length<=100:=by rw[<-aj,<-QW];exact hlen
  obtain⟨J,hJ⟩:=ah (str bD);obtain⟨G,hG⟩:=ah (str eC);obtain⟨T,hT⟩:=ah jV;obtain⟨N,hN⟩:=ah T.length;have hJs:J.size=40:=by rw[hJ,aj];exact nU _ _
  have hGs:G.size=40:=by rw[hG,aj];exact nU _ _
  have hNl:N<=200:=by rw[hN,hT];exact ZE
  have kE:∀{w:World} {r O R F:Nat} {lab:Nat->Option Lb},Rp w r O R F 2 4000 ou lab m->Calls Tryz.prog 6 #[.pointer (some ⟨r,0,none⟩),.string ⟨#[114,101,102,115,47,104,101,97,100,115,47,109,97,105,110]⟩,.slice none 0 0,.string ⟨#[109]⟩,.int .i64 1] w λe w'=>e = .returned (.tuple #[.string J,.int .i64 0])/\∃t' av,Lw w' r O R F 11 t' av m [(aP,bD)]/\t' (az eC)=none/\t' (tmps++eC)=none/\dS w lab w' av:=λh=>by rw[hJ];exact qxp h
  have hpu:∀{w:World} {r O R F:Nat} {t:Nm->Option (List UInt8)} {lab:Nat->Option Lb},Lw w r O R F 11 t lab m [(aP,bD)]->t (az eC)=none->t (tmps++eC)=none->∀(a:OA) (cap:Nat),lib.Rd w a cap T->
    Calls Tryz.prog 7 #[.pointer (some ⟨O,0,none⟩),.int .i64 4,.slice a N cap] w λe w'=>e = .returned (.tuple #[.string G,.int .i64 0])/\∃t' av,Lw w' r O R F 13 t' av m [(aP,bD)]/\Has t' 4 jV/\dS w lab w' av:=λh h1 h2 a cap hb=>by rw[hG,hN,hT];exact zhk h h1 h2 a cap (by rw[<-hT];exact hb)
  have AR:∀{w:World} {r O R F:Nat} {t:Nm->Option (List UInt8)} {lab:Nat->Option Lb},Lw w r O R F 13 t lab m [(aP,bD)]->Has t 4 jV->Calls Tryz.prog 8 #[.pointer (some ⟨r,0,none⟩),.slice (some ⟨w.heap.size,0,none⟩) 1 1] (w.alloc (.cells #[.string ⟨#[114,101,102,115,47,116,97,103,115,47,118,49]⟩,.string ⟨#[]⟩,.string G] 39)) λe w'=>e = .returned (.tuple #[.int .i64 1,.int .i64 0])/\∃t' av,Lw w' r O R F 18 t' av m two/\Has t' 4 jV/\dS w lab w' av:=λ{w r O R F t lab} h ht=>by have fa:Fr [] w (w.alloc (.cells #[.string ⟨#[114,101,102,115,47,116,97,103,115,47,118,49]⟩,.string ⟨#[]⟩,.string G] 39)):=(Fr.refl [] w).alloc _;refine (zeh (h.fr fa) ht (some ⟨w.heap.size,0,none⟩) (by rw[<-hG];exact oC w _ _ _) (λx hx=>yE h.rp.fs (by simp only[ag,eF]at hx;omega))).mono ?_;rintro e w' ⟨he,t',av,h1,h2,s⟩;exact⟨he,t',av,h1,h2,(dS.refl w lab fa).trans s⟩
  have Me:∀{w:World} {r O R F:Nat} {t:Nm->Option (List UInt8)} {lab:Nat->Option Lb},Lw w r O R F 18 t lab m two->Has t 4 jV->Calls Tryz.prog 9 #[.pointer (some ⟨r,0,none⟩),.slice (some ⟨w.heap.size,0,none⟩) 1 1,.bool sy,.bool pe] (w.alloc (.cells #[.string P] 9)) λe w'=>∃a ls,e = .returned (.slice a ls.length ls.length)/\jU w' a ls.length ls/\ls.map Lv.ln=eJ p aP bD sy++two.flatMap (eQ p pe λ_=>bD)/\Fr [] w w':=λ{w r O R F t lab} h ht=>by have fa:Fr [] w (w.alloc (.cells #[.string P] 9)):=(Fr.refl [] w).alloc _;refine (zec (h.fr fa) ht p (some ⟨w.heap.size,0,none⟩) 1 (by rw[<-QW];exact oC w _ _ _) sy pe).mono ?_;rintro e w' ⟨a,ls,he,h1,h2,f⟩;exact⟨a,ls,he,h1,h2,fa.trans f⟩
  have fE:⟨#[111,98,106,101,99,116,32]⟩++J++⟨#[10,116,121,112,101,32,99,111,109,109,105,116,10,116,97,103,32,118,49,10,116,97,103,103,101,114,32,65,32,60,97,62,32,49,32,43,48,48,48,48,10,10,116]⟩=str T:=by rw[hJ,hT];show str _++str _++str _=_;rw[gH,gH];unfold jV jS;exact congrArg str (by simp[ln,nZ,qF,jE,sR,fT,yA,wV])
  have vg:∀(s:Nm) (hs:s.length<=1000) (w:World),w.cell? ⟨X,0,none⟩=some (.string P)->Calls Tryz.prog 10 #[.string (str s),.pointer (some ⟨X,0,none⟩)] w λe w'=>e = .returned (.bool (Lib.hasPrefix s p))/\Fr [] w w':=λs hs w h=>qtx s p X (by omega) (by omega) w (by rw[<-QW];exact h)
  have QO:=vg mq (by decide);have Gs:=vg aP (by decide);have QN:=vg fe (by decide);have UP:=zcy p sy pe;have LU:sP p sy=if Lib.hasPrefix mq p=true then (if sy=true then bD++dG++(pZ++aP) else bD++dG)++[10] else []:=rfl
  have LS:sO p=if Lib.hasPrefix aP p=true then bD++[32]++aP++[10] else []:=rfl
  have LR:sN p pe=if Lib.hasPrefix fe p=true then (if pe=true then eC++[32]++fe++(kU++bD) else eC++[32]++fe)++[10] else []:=rfl
  obtain⟨bH,ebH⟩:∃b,b=Lib.hasPrefix mq p:=⟨_,rfl⟩;obtain⟨bM,ebM⟩:∃b,b=Lib.hasPrefix aP p:=⟨_,rfl⟩;obtain⟨bV,ebV⟩:∃b,b=Lib.hasPrefix fe p:=⟨_,rfl⟩;rw[<-ebH]at QO LU;rw[<-ebM]at Gs LS;rw[<-ebV]at QN LR;rw[show str mq=(⟨#[72,69,65,68]⟩:ByteArray) from rfl]at QO;rw[show str aP=(⟨#[114,101,102,115,47,104,101,97,100,115,47,109,97,105,110]⟩:ByteArray) from rfl]at Gs;rw[show str fe=(⟨#[114,101,102,115,47,116,97,103,115,47,118,49]⟩:ByteArray) from rfl]at QN;obtain⟨WH,VQ⟩:∃x,x=sP p sy:=⟨_,rfl⟩;obtain⟨WM,VP⟩:∃x,x=sO p:=⟨_,rfl⟩;obtain⟨WV,VO⟩:∃x,x=sN p pe:=⟨_,rfl⟩;rw[<-VQ]at LU;rw[<-VP]at LS;rw[<-VO]at LR;rw[<-VQ,<-VP,<-VO]at UP;have CM:bD.length=40:=nU _ _;have t40:eC.length=40:=nU _ _;have lH:WH.length<=300:=by rw[LU];split;(split<;>simp[dG,pZ,aP,CM]);simp
  have lM:WM.length<=300:=by rw[LS];split<;>simp[aP,CM]
  have lV:WV.length<=300:=by rw[LR];split;(split<;>simp[fe,kU,CM,t40]);simp
  have HS:=aQ hJ hG LU LS LR;have HL:=aq lH lM lV;have D6:decide ((100:Int)<(P.size:Int))=false:=by simp;omega
  have H:=cU ho (@QP) (@kE) (@hpu) (@AR) (@Me);have HC:=aq fE hN hNl;have HB:=aq QO Gs QN;have HWA:=af UP;have hJ9:J.size<=1000:=by omega
  have hG9:G.size<=1000:=by omega
  clear ho QP kE hpu AR Me fE vg QO Gs QN UP LU LS LR ebH ebM ebV VQ VP VO CM t40 lH lM lV hJ hG hT hN hNl QW hp jq hJs hGs c0 hX kz bX f0 hm eH;go_enter Tryz.func3,Tryz.ntmps3;go_upto_region 1 with fail;rw[<-HW.o0,<-HW.o1];go_upto_region 4 with (go_at_call 4;go_loud (refine H.o0.mono ?_;rintro e w1 ⟨F,r,O,R,lab,rfl,h1,x1⟩;have cX:=x1.cell;have H1:=ai h1 x1;clear h1 x1));go_upto_region 9 with (first
   | (go_at_call 6;go_loud (refine (H.l1.2.1 H1.o0).mono ?_;rintro e w2 ⟨rfl,t2,qm,h2,n1,n2,s2⟩;have x2:=H1.l1.step s2;have cO:=(cell_of h2.rp.box.box 0).trans (show _=some (Value.pointer (some ⟨O,0,none⟩)) from rfl);have H2:=aA h2 n1 n2 x2;clear h2 n1 n2 s2 x2))
   | (refine IY (e:=5) Tryz.underlying9 Tryz.underlying35 Tryz.underlying5 rfl _ rfl T (by exact congrArg Value.string HC.o0) (by rw[<-HC.o1];have:=HC.l2;unfold maxLen;omega) ?_;intro cap w3 zC o3 f3 zr;rw[<-HC.o1]at zC ⊢;have H3:=ai o3.rd f3;clear o3 f3 zr)
   | (go_at_call 7;go_loud (refine (H.l1.2.2.1 (H2.o0.fr H3.l1) H2.o1 H2.o2 _ _ H3.o0).mono ?_;rintro e w4 ⟨rfl,t4,qj,h4,k4,s4⟩;have x4:=(H2.l3.step (dS.refl _ _ H3.l1)).step s4;have H4:=aq h4 k4 x4;clear h4 k4 s4 x4))
   | (go_at_call 8;go_loud ((with_reducible refine (H.l1.2.2.2.1 H4.o0 H4.o1).mono ?_);rintro e w5 ⟨rfl,t5,mI,h5,k5,s5⟩;have x5:=H4.l2.step s5;have H5:=aq h5 k5 x5;clear h5 k5 s5 x5)))
  have cX:=H5.l2.cell;clear cO H1 H2 H3 H4;go_upto_if 79 with (first
   | (go_at_call 9;go_loud ((with_reducible refine (H.l1.2.2.2.2 H5.o0 H5.o1).mono ?_);rintro e w6 ⟨a,ls,rfl,Qw,he6,f6⟩;have Wz:=f6.cell cX (by simp);have H6:=aq Qw (HWA.out ls he6) f6;clear Qw he6 f6))
   | (go_at_call 10;go_loud (refine (HB.o0 _ Wz).mono ?_;rintro e w7 ⟨rfl,f7⟩;have cX7:=f7.cell Wz (by simp);have H7:=af f7;clear f7)))
  go_cut [16] from 18 (λs16 wz=>s16 = .string (str WH)/\Fr [] w7 wz)
  case first=>
   have hv:=HS.o2;have ej:=HS.o0;cases bH with
   | false=>
    have HV:=af hv;clear hv ej;go_wp2;go_meet;exact⟨by rw[HV.out];rfl,Fr.refl _ _⟩
   | true=>
    cases sy with
    | false=>
     have HV:=ai hv ej;clear hv ej;go_wp2;go_meet;refine⟨congrArg Value.string ?_,Fr.refl _ _⟩;rw[HV.out.1,HV.out.2];show str []++str bD++str dG++str [10]=_;simp only[gH];exact congrArg str (by simp)
    | true=>have HV:=ai hv ej;clear hv ej;go_wp2;go_meet;refine⟨congrArg Value.string ?_,Fr.refl _ _⟩;rw[HV.out.1,HV.out.2];show str []++str bD++str dG++str (pZ++aP)++str [10]=_;simp only[gH];exact congrArg str (by simp)
  case rest=>
  obtain⟨rfl,fc⟩:=hcut;have cX8:=fc.cell cX7 (by simp);have F8:=af (H7.out.trans fc);have gS:(str WH).size<=300:=by rw[aj];exact HL.o0
  obtain⟨S1,wG⟩:=ah (str WH);rw[<-wG]at gS ⊢;have WI:=af wG;clear wG fc cX7 H7;go_upto_if 90 with (go_at_call 10;go_loud (refine (HB.o1 _ cX8).mono ?_;rintro e w9 ⟨rfl,f9⟩;have cX9:=f9.cell cX8 (by simp);have H9:=af (F8.out.trans f9);clear f9));go_cut [16] from 18 (λs16 wz=>s16 = .string (str (WH++WM))/\wz=w9)
  case first=>
   have hv:=HS.o3;have ej:=HS.o0;cases bM with
   | false=>
    have HV:=af hv;clear hv ej;go_wp2;go_meet;exact⟨by rw[WI.out,HV.out];simp,rfl⟩
   | true=>have HV:=ai hv ej;clear hv ej;go_wp2;go_meet;refine⟨congrArg Value.string ?_,rfl⟩;rw[WI.out,HV.out.1,HV.out.2];show str WH++str bD++str ([32]++aP++[10])=_;simp only[gH];exact congrArg str (by simp)
  case rest=>
  obtain⟨rfl,rfl⟩:=hcut;have lN:(str (WH++WM)).size<=600:=by rw[aj,aG];have:=HL.o0;have:=HL.o1;omega
  obtain⟨S2,vt⟩:=ah (str (WH++WM));rw[<-vt]at lN ⊢;have Rt:=af vt;clear vt gS WI;go_upto_if 96 with (go_at_call 10;go_loud (refine (HB.l2 _ cX9).mono ?_;rintro e wA ⟨rfl,fA⟩;have HA:=af (H9.out.trans fA);clear fA));go_cut [16] from 18 (λs16 wz=>s16 = .string (str (WH++WM++WV))/\wz=wA)
  case first=>
   have hv:=HS.l4;have ej:=HS.o0;have eg:=HS.o1;cases bV with
   | false=>
    have HV:=af hv;clear hv ej eg;go_wp2;go_meet;exact⟨by rw[Rt.out,HV.out];simp,rfl⟩
   | true=>
    cases pe with
    | false=>
     have HV:=aq hv ej eg;clear hv ej eg;go_wp2;go_meet;refine⟨congrArg Value.string ?_,rfl⟩;rw[Rt.out,HV.out.1,HV.out.2.2];show str (WH++WM)++str eC++str ([32]++fe)++str [10]=_;simp only[gH];exact congrArg str (by simp)
    | true=>have HV:=aq hv ej eg;clear hv ej eg;go_wp2;go_meet;refine⟨congrArg Value.string ?_,rfl⟩;rw[Rt.out,HV.out.1,HV.out.2.1,HV.out.2.2];show str (WH++WM)++str eC++str ([32]++fe)++str kU++str bD++str [10]=_;simp only[gH];exact congrArg str (by simp)
  case rest=>
  obtain⟨rfl,rfl⟩:=hcut;obtain⟨S3,VR⟩:=ah (str (WH++WM++WV));rw[<-VR];have HL6:=af (H6.o0.fr HA.out);have HR:=af ((H5.o0.rp.fr H6.l2).fr HA.out);have HE:=aq H6.o1.1 H6.o1.2 VR;have hn9:ls.length<=3:=H6.o1.2.2;have HF:=af ((H5.l2.fr.trans H6.l2).trans HA.out);clear VR lN Rt HS cX Wz cX9 H5 H6 H9 HA HB HC;obtain⟨N,hN⟩:=ah ls.length;rw[<-hN]at hn9 ⊢;have HN:=af hN;clear hN;go_wp2;go_loopg [18,19] N (λk s18 s19 wr=>∃(A:ByteArray) (i:Nat),s18 = .string A/\s19 = .int .i64 (i:Nat)/\i+k=N/\A=str ((ls.take i).flatMap (·.bs))/\A.size<=300*i/\wr=wc);case atStart=>exact⟨⟨#[]⟩,0,rfl,rfl,by omega,rfl,ax _,rfl⟩
  case round=>
   obtain⟨A,i,rfl,rfl,cQ,hA,gg,rfl⟩:=hrel;by_cases hi:i<N
   ·obtain⟨k,rfl⟩:∃k,gk=k+1:=⟨gk-1,by omega⟩;have xv:i<ls.length:=by rw[<-HN.out];exact hi
    obtain⟨x,hx⟩:=ah (ls[i]);have yV:x∈ls:=by rw[hx];exact sk xv
    have mJ:ls[i]?=some x:=by rw[hx];exact dm xv
    obtain⟨k1,k2⟩:=HE.out.2.1.1 x yV;obtain⟨g,o,rfl,hh⟩:=HL6.out.cs.at (by rw[Un,<-HN.out];omega);have hl:=S8 ls i xv;rw[<-hx,k1]at hl;have d0:=hh _ _ hl.1;have d1:=hh _ _ hl.2;rw[<-pP]at d1;have iq:=HL6.out.ok x yV;obtain⟨n,hn⟩:=ah x.bs.length;have hcv:=xX wr Tryz.underlying35 Tryz.underlying5 Tryz.underlying9 hn.symm iq.cs x.cap;obtain⟨Y,hY⟩:=ah (str x.bs);have hYs:Y.size<=300:=by rw[hY,aj];exact k2
    rw[<-hY]at hcv;rw[<-hn]at d1;have cI:A++Y=str ((ls.take (i+1)).flatMap (·.bs)):=by rw[hA,hY,gH,BJ,mJ,yQ];simp
    have HT:=af cI;clear hx yV mJ k1 k2 hh hl iq hn hY hA cI xv;go_wp2;go_roundg k;case measure=>omega
    case rel=>exact⟨A++Y,i+1,rfl,by go_num,by omega,HT.out,by rw[ByteArray.size_append];omega,rfl⟩
   ·obtain rfl:i=N:=by omega
    obtain rfl:gk=0:=by omega
    have e:A=S3:=by rw[hA,HE.out.2.2,HN.out,Ia,HE.out.1]
    subst e;clear hA;go_wp2_with (go_at_call 5;go_loud (refine (H.l1.1 HR.out).mono ?_;rintro e wB ⟨rfl,fB⟩;have HZ:=af fB;clear fB));go_ret;exact⟨rfl,HF.out.trans HZ.out⟩
 ·have D6:decide ((100:Int)<(P.size:Int))=true:=by simp;omega
  have H:=ai ho (@QP);have qQ:100<P.size:=by omega
  clear ho QP c0 hX kz bX f0 hm eH;go_enter Tryz.func3,Tryz.ntmps3;go_upto_region 1 with fail;rw[<-HW.o0,<-HW.o1];go_wp2_with (first
   | (go_at_call 4;go_loud (refine H.o0.mono ?_;rintro e w1 ⟨F,r,O,R,lab,rfl,h1,x1⟩;have cX:=x1.cell;have H1:=ai h1 x1.fr;clear h1 x1))
   | (go_at_call 5;go_loud (refine (H.l1 H1.o0).mono ?_;rintro e wB ⟨rfl,fB⟩;have HZ:=af fB;clear fB)))
  go_ret;exact⟨rfl,H1.l1.trans HZ.out⟩
end ob

end Go.Proofs.YticadfhpolhkeaaGreatDoor