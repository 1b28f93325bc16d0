/-
  Texts of this proof, one behind the other: ObjC, ObjT, RefS, RefT, RefI, NameW, RepoOp, RefG, RefH.
-/
import Derived.Test.YticadfhpolhkeaaGreatDoorQ20
import Derived.Test.YticadfhpolhkeaaGreatDoorQ21
set_option maxHeartbeats 16000000
set_option maxRecDepth 100000
set_option linter.unusedVariables false
set_option linter.unusedSimpArgs false
namespace Go.Proofs.YticadfhpolhkeaaGreatDoor
namespace ob
open Go Go.RowKit lib fs lo
variable {w wr:World} {B C P:Nat} {s:LB} {bs cs:AV}
set_option maxRecDepth 100000
def ln (nm line rest:LB):List UInt8:=nm++32::(line++10::rest)
def gu:List UInt8:=[116,114,101,101]
def dK:List UInt8:=[112,97,114,101,110,116]
def iJ:List UInt8:=[97,117,116,104,111,114]
def cK:List UInt8:=[99,111,109,109,105,116,116,101,114]
def parts:List (List UInt8)->List UInt8->List UInt8
 | [],r=>r
 | p::ps,r=>ln dK p (parts ps r)
def bq (tid:LB) (ps:List (List UInt8)) (au co msg:LB):List UInt8:=ln gu tid (parts ps (ln iJ au (ln cK co (10::msg))))
structure kP (s:LB):Prop where
 hash:dX s=true
 len:s.length=40
 plain:∀c∈s,48<=c.toNat/\c.toNat<=102
structure St (w wr:World) (P C B:Nat) (tC tB:TypeId) (s:LB) (cs bs:AV):Prop where
 text:nT wr P s
 obj:wr.heap[C]?=some (.cells cs tC (0,0))
 ok:wr.heap[B]?=some (.cells bs tB (0,0))
 fr:Fr [] w wr
 new:w.heap.size<=P/\w.heap.size<=C/\w.heap.size<=B
 ne:P≠C/\P≠B/\C≠B
theorem St.field {w2:World} {tC tB:TypeId} {s2:LB} (h:St w wr P C B tC tB s cs bs) (hs:nT w2 P s2) (f:Fr [P] wr w2):St w w2 P C B tC tB s2 cs bs:=
 ⟨hs,f.ag h.obj (by simpa using λe=>h.ne.1 e.symm),f.ag h.ok (by simpa using λe=>h.ne.2.1 e.symm),h.fr.step f (λx hx=>.inr ((eF.1 hx)▸h.new.1)),h.new,h.ne⟩
theorem St.cG {w2:World} {tC tB:TypeId} (h:St w wr P C B tC tB s cs bs) (f:Fr [] wr w2):St w w2 P C B tC tB s cs bs:=
 ⟨f.ag h.text (by simp),f.ag h.obj (by simp),f.ag h.ok (by simp),h.fr.trans f,h.new,h.ne⟩
theorem St.oy {tC tB:TypeId} (h:St w wr P C B tC tB s cs bs) (i:Nat) (u:Value):St w (wr.setCell ⟨C,i,none⟩ u) P C B tC tB s (cs.setIfInBounds i u) bs:=
 ⟨by unfold nT;rw[DB h.ne.1];exact h.text,df h.obj u,by rw[DB (λe=>h.ne.2.2 e.symm)];exact h.ok,h.fr.setCell (.inr h.new.2.1) u,h.new,h.ne⟩
theorem St.uF {tC tB:TypeId} (h:St w wr P C B tC tB s cs bs) (i:Nat) (u:Value):St w (wr.setCell ⟨B,i,none⟩ u) P C B tC tB s cs (bs.setIfInBounds i u):=
 ⟨by unfold nT;rw[DB h.ne.2.1];exact h.text,by rw[DB h.ne.2.2];exact h.obj,df h.ok u,h.fr.setCell (.inr h.new.2.2) u,h.new,h.ne⟩
theorem St.frT {w2:World} {tC tB:TypeId} {T:LN} (h:St w wr P C B tC tB s cs bs) (f:Fr T wr w2) (hT:∀x∈T,w.heap.size<=x/\x≠P/\x≠C/\x≠B):St w w2 P C B tC tB s cs bs:=
 ⟨f.ag h.text (λm=>(hT _ m).2.1 rfl),f.ag h.obj (λm=>(hT _ m).2.2.1 rfl),f.ag h.ok (λm=>(hT _ m).2.2.2 rfl),h.fr.step f (λx hx=>.inr (hT x hx).1),h.new,h.ne⟩
theorem kP.yS (h:kP s):∀x∈s,x≠10:=by intro x hx e;have:=h.plain x hx;rw[e]at this;exact absurd this.1 (by decide)
theorem Tg:∀(ps:List (List UInt8)) (r:LB),(∀p∈ps,kP p)->(parts ps r).length=48*ps.length+r.length
 | [],r,_=>by simp[parts]
 | p::ps,r,h=>by have h1:=(h p (by simp)).len;have h2:=Tg ps r (λq hq=>h q (oH _ hq));simp[parts,ln,dK,h1,h2];omega
def fG (au co msg:LB):List UInt8:=ln iJ au (ln cK co (10::msg))
theorem que (zs:List (List UInt8)) (x:LB) (ao:OA) (n c:Nat) (w:World) (hn:n=zs.length) (h9:zs.length<=9) (h:Cs w ao (zs.map λp=>Value.string (str p))) (hx:x∉zs) :
  Calls Tryz.prog 52 #[.slice ao n c,.string (str x)] w λe w'=>e = .returned (.bool false)/\w'=w:=by
 by_cases h0:zs=[]
 ·subst h0;rw[hn];exact Tryz.slices_Contains_string_empty ao c (str x) w
 ·obtain⟨g,o,rfl,hc⟩:=h.at (by rw[gx];exact List.length_pos_iff.2 h0);have k:=Tryz.slices_Contains_string g o n c (zs.map str) (str x) w (by simp;omega) (by omega) (λj hj=>by
   have uZ:j<zs.length:=by simpa using hj
   rw[hc j (.string (str zs[j])) (by simp[uZ])]
   simp[uZ])
  rw[lL (by simp;omega)]at k;have e:Lib.containsS (zs.map str) (str x)=false:=by
   rw[Bool.eq_false_iff];intro e;have:=(Lib.containsS_iff _ _).1 e;obtain⟨y,hy,he⟩:=mU.1 this;have h2:(str y).toList=(str x).toList:=by rw[he]
   rw[ay,ay]at h2;exact hx (h2▸hy)
  rw[e]at k;exact k
theorem qx6 (tid:LB) (ps:List (List UInt8)) (au co msg:LB) (m:Int) (w:World) (ht:kP tid) (hp:∀p∈ps,kP p) (wg:ps.Nodup) (DQ:ps.length<=9)
  (ha:(∀x∈au,x≠10)/\au.length<=100) (hc:(∀x∈co,x≠10)/\co.length<=100) (hl:msg.length<=100)
  (pa:∀w,Calls Tryz.prog 172 #[.string (str au)] w λe w'=>e = .returned (.bool true)/\Fr [] w w')
  (pc:∀w,Calls Tryz.prog 172 #[.string (str co)] w λe w'=>e = .returned (.bool true)/\Fr [] w w')
  (hg:∀w,Calls Tryz.prog 173 #[.string (str msg),.string ⟨#[0]⟩] w λe w'=>e = .returned (.bool true)/\Fr [] w w')
  (hm:w.cell? ⟨2,0,none⟩=some (.int .i64 m)) :
  Calls Tryz.prog 111 #[.string (str (bq tid ps au co msg))] w λe w'=>∃pa,e = .returned (.tuple #[.iface 132 (.agg #[.string (str tid),.slice pa ps.length ps.length,.string (str au),.string (str co),.string (str msg)]),.bool true])/\Cs w' pa (ps.map λp=>Value.string (str p))/\Fr [] w w':=by
 have jq:=Tg ps (fG au co msg) hp;have Fy:(fG au co msg).length<=400:=by unfold fG ln iJ cK;simp;omega
 obtain⟨z,hz⟩:=ah (str (bq tid ps au co msg));rw[<-hz];have HZ:=af hz;clear hz;go_enter Tryz.func111,Tryz.ntmps111;go_upto_region 3 with fail;obtain⟨w1,aJ⟩:∃w1,w1=(((w.alloc (Obj.cells #[Value.string z] 9)).alloc (Obj.cells #[Value.string { data:=#[] },Value.slice none 0 0,Value.string { data:=#[] },Value.string { data:=#[] },Value.string { data:=#[] }] 132)).alloc (Obj.cells #[Value.bool false,Value.bool false,Value.bool false] 268)):=⟨_,rfl⟩;obtain⟨P,hP⟩:=ah w.heap.size;obtain⟨C,hC⟩:=ah (w.heap.size+1);obtain⟨B,hB⟩:=ah (w.heap.size+1+1);have st:St w w1 P C B 132 268 (bq tid ps au co msg) #[.string ⟨#[]⟩,.slice none 0 0,.string ⟨#[]⟩,.string ⟨#[]⟩,.string ⟨#[]⟩] #[.bool false,.bool false,.bool false]:=by
  refine⟨?_,?_,?_,?_,by omega,by omega⟩
  ·unfold nT;rw[aJ,hP,<-HZ.out];exact alloc_old _ (alloc_old _ (aV w _))
  ·rw[aJ,hC];refine alloc_old _ ?_;have:=aV (w.alloc (Obj.cells #[Value.string z] 9)) (Obj.cells #[Value.string { data:=#[] },Value.slice none 0 0,Value.string { data:=#[] },Value.string { data:=#[] },Value.string { data:=#[] }] 132);simpa using this
  ·rw[aJ,hB];have:=aV ((w.alloc (Obj.cells #[Value.string z] 9)).alloc (Obj.cells #[Value.string { data:=#[] },Value.slice none 0 0,Value.string { data:=#[] },Value.string { data:=#[] },Value.string { data:=#[] }] 132)) (Obj.cells #[Value.bool false,Value.bool false,Value.bool false] 268);simpa using this
  ·rw[aJ];exact (((Fr.refl [] w).alloc _).alloc _).alloc _
 rw[<-hB,<-hC,<-hP,<-aJ];clear hB hC hP aJ HZ;have n1:¬C=B:=st.ne.2.2;have n2:¬B=C:=λe=>n1 e.symm
 have HH:=pY ht hp wg ha hc pa pc hg hm;have HL:=aq jq Fy hl;have HS:=af st;clear ht hp wg ha hc pa pc hg hm jq Fy hl st;go_upto_block 0 with (go_at_call 171;refine (Dg gu tid (parts ps (fG au co msg)) P m _ HS.out.text HH.out.1.yS (by decide) (by rw[HH.out.1.len,HL.o0];have:=HL.o1;omega) (HS.out.fr.cell HH.out.2.2.2.2.2.2.2.2 (by simp))).mono ?_;rintro e w2 ⟨rfl,ep,f2⟩;have H2:=af (HS.out.field ep f2);have c2:=(cell_of H2.out.obj 0).trans (show _=some (Value.string ⟨#[]⟩) from rfl);have d2:=(cell_of H2.out.ok 0).trans (show _=some (Value.bool false) from rfl);have z2:=aT H2.out.obj 0;have y2:=aT H2.out.ok 0;clear ep f2);have JQ:=(H2.out.oy 0 (.string (str tid))).uF 0 (.bool true);clear c2 d2 z2 y2 H2 HS;generalize (w2.setCell ⟨C,0,none⟩ (.string (str tid))).setCell ⟨B,0,none⟩ (.bool true)=w3 at *;have H3:=af JQ;clear JQ;obtain⟨N,hN⟩:=ah ps.length;have HN:=af hN;rw[<-hN]at DQ;clear hN;go_wp2;go_loopg [] N (λk wr=>∃(j:Nat) (pa:OA) (cp:Nat),j+k=N/\St w wr P C B 132 268 (parts (ps.drop j) (fG au co msg)) #[.string (str tid),.slice pa j cp,.string ⟨#[]⟩,.string ⟨#[]⟩,.string ⟨#[]⟩] #[.bool true,.bool false,.bool false]/\
  wr.ownsRow 0 9 1 (.slice pa j cp) j ((ps.take j).map λp=>Value.string (str p))/\∀x∈ag pa,w.heap.size<=x/\x≠P/\x≠C/\x≠B)
 case atStart=>exact⟨0,none,0,by omega,H3.out,oE _ _ _ _,by simp[ag]⟩
 case round=>
  obtain⟨j,pa,cp,fP,st,how,dW⟩:=hrel;have HS:=aq st how dW;clear st how dW;by_cases hj:j<N
  ·obtain⟨k,rfl⟩:∃k,gk=k+1:=⟨gk-1,by omega⟩;have nO:j<ps.length:=by rw[<-HN.out];exact hj
   obtain⟨p,rF⟩:=ah (ps[j]'nO);have Ck:p∈ps:=by rw[rF];exact sk nO
   have oT:=HH.out.2.1 p Ck;have hdr:parts (ps.drop j) (fG au co msg)=ln dK p (parts (ps.drop (j+1)) (fG au co msg)):=by rw[xg nO,rF];rfl
   have Mq:p∉ps.take j:=by
    intro hx;obtain⟨i,hi,he⟩:=List.getElem_of_mem hx;have xv:i<j:=by simp at hi;omega
    have xB:ps[i]'(by omega)=ps[j]'nO:=by rw[<-rF,<-he];simp
    exact absurd ((List.getElem_inj HH.out.2.2.1).1 xB) (by omega)
   have AX:(parts (ps.drop (j+1)) (fG au co msg)).length<=900:=by rw[Tg _ _ (λq hq=>HH.out.2.1 q (List.mem_of_mem_drop hq))];have:=HL.o1;simp;have:=HN.out;omega
   have uv:(ps.take (j+1)).map (λp=>Value.string (str p))=(ps.take j).map (λp=>Value.string (str p))++[.string (str p)]:=by rw[BJ,dm nO,rF,jd];rfl
   have uu:nT wr P (dK++32::(p++10::parts (ps.drop (j+1)) (fG au co msg))):=by have:=HS.out.1.text;rw[hdr]at this;exact this
   have HJ:=cU oT uu Mq AX uv nO;clear oT uu hdr Mq AX uv rF Ck nO;go_wp2_with (first
    | (go_at_call 171;refine (Dg dK p (parts (ps.drop (j+1)) (fG au co msg)) P m _ HJ.out.2.1 HJ.out.1.yS (by decide) (by rw[HJ.out.1.len];have:=HJ.out.2.2.2.1;omega) (HS.out.1.fr.cell HH.out.2.2.2.2.2.2.2.2 (by simp))).mono ?_;rintro e w4 ⟨rfl,Cg,f4⟩;have H4:=ai (HS.out.1.field Cg f4) (dp HS.out.2.1 f4 (λx hx hm=>(HS.out.2.2 x (by rw[<-cY pa j cp,hx];simp)).2.1 (by simpa using hm)));clear Cg f4)
    | (go_at_call 116;refine (Au p _ (by rw[HJ.out.1.len];decide)).mono ?_;rintro e w5 ⟨he,f5⟩;obtain rfl:e = .returned (.bool true):=(by rw[he,HJ.out.1.hash]);have H5:=ai (H4.o0.cG f5) (dp H4.l1 f5 (by simp));have c5:=(cell_of H5.o0.obj 1).trans (show _=some (Value.slice pa j cp) from rfl);clear he f5)
    | (go_at_call 52;refine (que (ps.take j) p pa j cp _ (by rw[fH];have:=HJ.out.2.2.2.2.2;omega) (by rw[fH];omega) (qK H5.l1) HJ.out.2.2.1).mono ?_;rintro e w6 ⟨rfl,hw⟩;obtain rfl:=hw.symm)
    | (refine fq xT rfl _ _ rfl (.slice pa j cp) j ((ps.take j).map λp=>Value.string (str p)) (ag pa) rfl (cY pa j cp) (dp H5.l1 ((Fr.refl [] _).alloc _) (by simp)) (some ⟨w5.heap.size,0,none⟩) 1 1 [.string (str p)] (by first|rfl|simp) (ax _) (λh=>by cases h) (nD _ _ _ _ (aV _ _)) rfl (by intro u hu;simp only[eF]at hu;rw[hu];rfl) (by omega) (by unfold maxLen;omega) ?_;intro cM fx w7 cS;have H7:=af cS;have hX:=cS.fr.ag (alloc_old (.cells #[.string (str p)] 9) H5.o0.obj) (λhm=>(HS.out.2.2 C hm).2.2.1 rfl);have c7:=(cell_of hX 1).trans (show _=some (Value.slice pa j cp) from rfl);have z7:=aT hX 1;clear cS hX))
   go_roundg k;case measure=>omega
   case rel=>
    have s5:=(H5.o0.cG ((Fr.refl [] w5).alloc (.cells #[.string (str p)] 9))).frT H7.out.fr HS.out.2.2;have bF:P<w5.heap.size/\C<w5.heap.size/\B<w5.heap.size:=⟨lt_of_block H5.o0.text,lt_of_block H5.o0.obj,lt_of_block H5.o0.ok⟩;have mF:∀x∈ag cM,w.heap.size<=x/\x≠P/\x≠C/\x≠B:=by
     intro x hx;rcases H7.out.at_ x hx with h|h
     ·exact HS.out.2.2 x h
     ·have e:(w5.alloc (.cells #[.string (str p)] 9)).heap.size=w5.heap.size+1:=by simp
      have:=s5.new;omega
    refine⟨j+1,cM,fx,by omega,s5.oy 1 _,?_,mF⟩;have h1:=dp H7.out.own ((Fr.refl [C] w7).setCell (p:=⟨C,1,none⟩) (.inl (by simp)) (.slice cM (j+1) fx)) (λx hx hm=>(mF x (by rw[<-cY cM (j+1) fx,hx];simp)).2.2.1 (by simpa using hm));rw[HJ.out.2.2.2.2.1];exact h1
  ·obtain rfl:j=N:=by omega
   have hle:=um HS.out.2.1;obtain⟨a2,c2,ea,vd,hmx⟩:=hle;cases ea;have uu:nT wr P (iJ++32::(au++10::(ln cK co (10::msg)))):=by have:=HS.out.1.text;rw[List.drop_of_length_le (by rw[HN.out];exact ax _)]at this;exact this
   have hma:Lib.hasPrefix (iJ++32::(au++10::(ln cK co (10::msg)))) (dK++[32])=false:=rfl;have HT:=ai uu hma;clear uu hma;go_upto_region 9 with (go_at_call 171;refine (qxw dK _ P _ HT.o0 HT.l1 (by decide)).mono ?_;rintro e w4 ⟨rfl,hw⟩;obtain rfl:=hw.symm);go_upto_region 10 with (go_at_call 171;refine (Dg iJ au (ln cK co (10::msg)) P m _ (HT.o0) HH.out.2.2.2.1.1 (by decide) (by simp[ln,cK];have:=HL.out;have:=HH.out.2.2.2.1.2;have:=HH.out.2.2.2.2.1.2;omega) (HS.out.1.fr.cell HH.out.2.2.2.2.2.2.2.2 (by simp))).mono ?_;rintro e w5 ⟨rfl,L8,f5⟩;have H5:=ai (HS.out.1.field L8 f5) f5;have c5:=(cell_of H5.o0.obj 2).trans (show _=some (Value.string ⟨#[]⟩) from rfl);have d5:=(cell_of H5.o0.ok 1).trans (show _=some (Value.bool false) from rfl);have z5:=aT H5.o0.obj 2;have y5:=aT H5.o0.ok 1;clear L8 f5);have s6:=(H5.o0.oy 2 (.string (str au))).uF 1 (.bool true);have o6:=dp (dp HS.out.2.1 H5.l1 (λx hx hm=>(HS.out.2.2 x (by rw[<-cY pa j cp,hx];simp)).2.1 (by simpa using hm))) ((((Fr.refl [C,B] w5).setCell (p:=⟨C,2,none⟩) (.inl (by simp)) (.string (str au))).setCell (p:=⟨B,1,none⟩) (.inl (by simp)) (.bool true))) (λx hx hm=>by
    have:=HS.out.2.2 x (by rw[<-cY pa j cp,hx];simp)
    simp at hm
    rcases hm with h|h
    ·exact this.2.2.1 h
    ·exact this.2.2.2 h)
   clear c5 d5 z5 y5 H5;generalize (w5.setCell ⟨C,2,none⟩ (.string (str au))).setCell ⟨B,1,none⟩ (.bool true)=w6 at *;have H6:=ai s6 o6;clear s6 o6;go_upto_region 11 with (go_at_call 171;refine (Dg cK co (10::msg) P m _ (H6.o0.text) HH.out.2.2.2.2.1.1 (by decide) (by simp[ln,cK];have:=HL.out;have:=HH.out.2.2.2.1.2;have:=HH.out.2.2.2.2.1.2;omega) (H6.o0.fr.cell HH.out.2.2.2.2.2.2.2.2 (by simp))).mono ?_;rintro e w5 ⟨rfl,L8,f5⟩;have H5:=ai (H6.o0.field L8 f5) f5;have c5:=(cell_of H5.o0.obj 3).trans (show _=some (Value.string ⟨#[]⟩) from rfl);have d5:=(cell_of H5.o0.ok 2).trans (show _=some (Value.bool false) from rfl);have z5:=aT H5.o0.obj 3;have y5:=aT H5.o0.ok 2;clear L8 f5);have s7:=(H5.o0.oy 3 (.string (str co))).uF 2 (.bool true);have o7:=dp (dp H6.l1 H5.l1 (λx hx hm=>(HS.out.2.2 x (by rw[<-cY pa j cp,hx];simp)).2.1 (by simpa using hm))) ((((Fr.refl [C,B] w5).setCell (p:=⟨C,3,none⟩) (.inl (by simp)) (.string (str co))).setCell (p:=⟨B,2,none⟩) (.inl (by simp)) (.bool true))) (λx hx hm=>by
    have:=HS.out.2.2 x (by rw[<-cY pa j cp,hx];simp)
    simp at hm
    rcases hm with h|h
    ·exact this.2.2.1 h
    ·exact this.2.2.2 h)
   clear c5 d5 z5 y5 H5;generalize (w5.setCell ⟨C,3,none⟩ (.string (str co))).setCell ⟨B,2,none⟩ (.bool true)=w7 at *;have H7:=ai s7 o7;have t7:=(cell_of s7.text 0).trans (show _=some (Value.string (str ([10]++msg))) from rfl);clear s7 o7;go_upto_region 12 with (go_at_call 77;refine (Pd [10] msg (by have:=HL.l2;simp;omega) _).mono ?_;rintro e w8 ⟨rfl,hw⟩;obtain rfl:=hw.symm);have Ra:=H7.out.1.ok;have Q9:=H7.out.1.obj;have b0:=(cell_of Ra 0).trans (show _=some (Value.bool true) from rfl);have b1:=(cell_of Ra 1).trans (show _=some (Value.bool true) from rfl);have b2:=(cell_of Ra 2).trans (show _=some (Value.bool true) from rfl);have k0:=(cell_of Q9 0).trans (show _=some (Value.string (str tid)) from rfl);have k2:=(cell_of Q9 2).trans (show _=some (Value.string (str au)) from rfl);have k3:=(cell_of Q9 3).trans (show _=some (Value.string (str co)) from rfl);clear Ra Q9;have hq:∀(x y:Operand) (w:World),(eqGuard BinOp.neq 268 x y (.agg #[.bool true,.bool true,.bool true]) (.agg #[.bool true,.bool true,.bool true])).run Tryz.prog w = .ok () w:=λ_ _ _=>by kernel_rfl
   have hb:∀w:World,(binOp BinOp.neq 268 (.agg #[.bool true,.bool true,.bool true]) (.agg #[.bool true,.bool true,.bool true])).run Tryz.prog w = .ok (.bool false) w:=λ_=>by kernel_rfl
   go_upto_region 14 with (first
    | (go_at_call 116;refine (Au tid _ (by rw[HH.out.1.len];decide)).mono ?_;rintro e w8 ⟨he,f8⟩;obtain rfl:e = .returned (.bool true):=(by rw[he,HH.out.1.hash]);have H8:=af f8;have l2:=f8.cell k2 (by simp);have l3:=f8.cell k3 (by simp);clear he f8)
    | (go_at_call 172;(with_reducible refine (HH.out.2.2.2.2.2.1 _).mono ?_);rintro e w9 ⟨rfl,f9⟩;have H9:=af f9;have q3:=f9.cell l3 (by simp);clear f9)
    | (go_at_call 172;(with_reducible refine (HH.out.2.2.2.2.2.2.1 _).mono ?_);rintro e wA ⟨rfl,fA⟩;have HA:=af fA;clear fA)
    | (go_at_call 173;refine (HH.out.2.2.2.2.2.2.2.1 _).mono ?_;rintro e wB ⟨rfl,fB⟩;have HB:=af fB;clear fB))
   have f8:=((H8.out.trans H9.out).trans HA.out).trans HB.out;have sB:=H7.out.1.cG f8;have oB:=dp H7.out.2 f8 (by simp);have e1:=(cell_of sB.obj 1).trans (show _=some (Value.slice pa j cp) from rfl);have e4:=(cell_of sB.obj 4).trans (show _=some (Value.string ⟨#[]⟩) from rfl);have g1:=aT sB.obj 1;have g4:=aT sB.obj 4;have HF:=ai sB oB;clear sB oB b0 b1 b2 k0 k2 k3 l2 l3 q3 hq hb f8 H8 H9 HA HB;go_upto_region 15 with (go_at_call 158;refine (J3 pa j cp _ vd hmx).mono ?_;rintro e w8 ⟨rfl,hw⟩;obtain rfl:=hw.symm);have sF:=(HF.o0.oy 4 (.string (str msg))).oy 1 (.slice pa j j);have oF:=dp HF.l1 (((Fr.refl [C] wB).setCell (p:=⟨C,4,none⟩) (.inl (by simp)) (.string (str msg))).setCell (p:=⟨C,1,none⟩) (.inl (by simp)) (.slice pa j j)) (λx hx hm=>(HS.out.2.2 x (by rw[<-cY pa j cp,hx];simp)).2.2.1 (by simpa using hm));clear e1 e4 g1 g4 HF;generalize (wB.setCell ⟨C,4,none⟩ (.string (str msg))).setCell ⟨C,1,none⟩ (.slice pa j j)=wD at *;have r0:=(cell_of sF.obj 0).trans (show _=some (Value.string (str tid)) from rfl);have r1:=(cell_of sF.obj 1).trans (show _=some (Value.slice pa j j) from rfl);have r2:=(cell_of sF.obj 2).trans (show _=some (Value.string (str au)) from rfl);have r3:=(cell_of sF.obj 3).trans (show _=some (Value.string (str co)) from rfl);have r4:=(cell_of sF.obj 4).trans (show _=some (Value.string (str msg)) from rfl);have HF:=ai sF oF;clear sF oF;go_wp2;go_ret2;have hcs:=qK HF.l1;rw[lL (by rw[HN.out];exact ax _)]at hcs;exact⟨pa,by rw[<-HN.out];rfl,hcs,HF.o0.fr⟩
set_option maxRecDepth 100000
def kR:Value:=.iface 197 (.agg #[.slice none 0 0])
theorem zjd (w:World):Calls Tryz.prog 170 #[.slice none 0 0] w λe w'=>e = .returned (.slice none 0 0)/\w'=w:=by
 go_enter Tryz.func170,Tryz.ntmps170;go_wp2;all_goals go_ret
 all_goals exact⟨rfl,rfl⟩
theorem qwp (a:OA) (c:Nat) (w:World):Calls Tryz.prog 110 #[.slice a 0 c] w λe w'=>e = .returned (.tuple #[kR,.bool true])/\Fr [] w w':=by
 have nj:=@run_makeMap Tryz.prog;go_enter Tryz.func110,Tryz.ntmps110;go_upto_block 0 with fail;obtain⟨w1,aJ⟩:=ah ((w.alloc (Obj.cells #[Value.slice none 0 0] 197)).alloc (Obj.map #[] 0));obtain⟨C,hC⟩:=ah w.heap.size;have hb:w1.heap[C]?=some (.cells #[.slice none 0 0] 197 (0,0)):=by rw[aJ,hC];exact alloc_old _ (aV w _)
 have f1:Fr [] w w1:=by rw[aJ];exact ((Fr.refl [] w).alloc _).alloc _
 have c0:=(cell_of hb 0).trans (show _=some (Value.slice none 0 0) from rfl);have z0:=aT hb 0;have H:=aq f1 hb hC;rw[<-aJ,<-hC];clear aJ hC f1 hb nj;go_wp2;go_loopg [0] 0 (λk s0 wr=>s0 = .slice a 0 c/\wr=w1);case atStart=>exact⟨rfl,rfl⟩
 case round=>obtain⟨rfl,rfl⟩:=hrel;go_wp2_with (go_at_call 170;refine (zjd _).mono ?_;rintro e w8 ⟨rfl,hw⟩;obtain rfl:=hw.symm);go_ret2;exact⟨rfl,H.o0.setCell (.inr (by show _<=C;rw[H.l2];exact ax _)) _⟩
theorem qn4 (a:OA) (c:Nat) (w:World):Calls Tryz.prog 57 #[.int .i64 2,.slice a 0 c] w λe w'=>e = .returned (.tuple #[kR,.int .i64 0])/\Fr [] w w':=by go_enter Tryz.func57,Tryz.ntmps57;go_wp2_with (go_at_call 110;refine (qwp a c _).mono ?_;rintro e w8 ⟨rfl,f8⟩;have H8:=af f8;clear f8);go_ret2;exact⟨rfl,H8.out⟩
def kN (tid:LB) (pa:OA) (n:Nat) (au co msg:LB):Value:=.iface 132 (.agg #[.string (str tid),.slice pa n n,.string (str au),.string (str co),.string (str msg)])
structure pJ (tid:LB) (ps:List (List UInt8)) (au co msg:LB):Prop where
 xq:kP tid
 uw:∀p∈ps,kP p
 nd:ps.Nodup
 few:ps.length<=9
 hau:(∀x∈au,x≠10)/\au.length<=100
 hco:(∀x∈co,x≠10)/\co.length<=100
 hmsg:msg.length<=100
 pau:∀w,Calls Tryz.prog 172 #[.string (str au)] w λe w'=>e = .returned (.bool true)/\Fr [] w w'
 pco:∀w,Calls Tryz.prog 172 #[.string (str co)] w λe w'=>e = .returned (.bool true)/\Fr [] w w'
 txt:∀w,Calls Tryz.prog 173 #[.string (str msg),.string ⟨#[0]⟩] w λe w'=>e = .returned (.bool true)/\Fr [] w w'
theorem qks {tid:LB} {ps:List (List UInt8)} {au co msg:LB} (h:pJ tid ps au co msg) (a:OA) (c L:Nat) (hL:L=(bq tid ps au co msg).length) (m:Int) (w:World) (hr:lib.Rd w a c (bq tid ps au co msg)) (hm:w.cell? ⟨2,0,none⟩=some (.int .i64 m)) :
  Calls Tryz.prog 57 #[.int .i64 1,.slice a L c] w λe w'=>∃pa,e = .returned (.tuple #[kN tid pa ps.length au co msg,.int .i64 0])/\Cs w' pa (ps.map λp=>Value.string (str p))/\Fr [] w w':=by
 have hcv:=xX w Tryz.underlying35 Tryz.underlying5 Tryz.underlying9 hL.symm hr.cs;have H:=af (qx6 tid ps au co msg m w h.xq h.uw h.nd h.few h.hau h.hco h.hmsg h.pau h.pco h.txt hm);clear h hr hm hL;go_enter Tryz.func57,Tryz.ntmps57;go_wp2_with (go_at_call 111;refine H.out.mono ?_;rintro e w8 ⟨pa,rfl,hc,f8⟩;have H8:=ai hc f8;clear f8 hc);go_ret2;exact⟨pa,rfl,H8.o0,H8.l1⟩
end ob
end Go.Proofs.YticadfhpolhkeaaGreatDoor
namespace Go.Proofs
def Tryz.lays106_ren:Go.Shelf.Ren:=⟨fun|106=>161|213=>211|265=>265|n=>n,fun|9=>9|3=>3|n=>n,fun|n=>n⟩
theorem Tryz.lays106:Go.Proofs.Lays.n106 Tryz.prog Tryz.lays106_ren:={
 mixed:=by kernel_rfl
 f106:=Tryz.func161.trans (congrArg some (by kernel_rfl))
 f213:=Tryz.func211.trans (congrArg some (by kernel_rfl))
 f265:=Tryz.func265.trans (congrArg some (by kernel_rfl))
 t3:=Tryz.underlying3
 a3:=Tryz.isAgg3
 z3:=Tryz.sizeOf3
 v3:=Tryz.zeroValue3
 t9:=Tryz.underlying9
 a9:=Tryz.isAgg9
 z9:=Tryz.sizeOf9
 v9:=Tryz.zeroValue9 }
open Go.RowKit in
theorem Tryz.strings_Compare (a b:ByteArray) (w:World) :
  Calls Tryz.prog 161 #[.string a,.string b] w λe w'=>e = .returned (.int .i64 (Lib.compareBytes a.data.toList b.data.toList))/\w'=w:=Any.strings_Compare Tryz.lays106 a b w
end Go.Proofs
namespace Go.Proofs.YticadfhpolhkeaaGreatDoor
namespace ob
open Go Go.RowKit lib fs lo pk
set_option maxRecDepth 100000
theorem qns (r p:LB):Lib.hasSuffix (r++p) p=true:=by unfold Lib.hasSuffix;simp
theorem YV (r p:LB) (hl:r.length+p.length<=1000000) (w:World):Calls Tryz.prog 78 #[.string (str (r++p)),.string (str p)] w λe w'=>e = .returned (.tuple #[.string (str r),.bool true])/\w'=w:=by
 have h1:=λw=>Any.stringslite_HasSuffix { Tryz.lays100 with } (str (r++p)) (str p) w (by rw[aj,aG];omega)
 rw[show Lib.hasSuffix (str (r++p)).data.toList (str p).data.toList=true from qns r p]at h1;have hs:∀w:World,(Instr.slice 9 (.string (str (r++p))) none (some (.int .i64 (r.length:Nat))) none).run Tryz.prog w = .ok (.string (str r)) w:=λw=>by have:=Ox (r++p) r.length (by simp) w;rw[List.take_left]at this;exact this
 obtain⟨z,hz⟩:=ah (str (r++p));obtain⟨y,hy⟩:=ah (str p);have oQ:y.size=p.length:=by rw[hy,aj]
 have cZ:z.size=r.length+p.length:=by rw[hz,aj,aG]
 obtain⟨n,hn⟩:=ah p.length;obtain⟨m,hm⟩:=ah r.length;rw[<-hn]at oQ cZ hl;rw[<-hm]at hs cZ hl;rw[<-hz]at h1 hs ⊢;rw[<-hy]at h1 ⊢;have H:=af h1;clear hz hy hn hm h1;have k:∀w,Calls Tryz.prog 142 #[.string z,.string y] w λe w'=>e = .returned (.tuple #[.string (str r),.bool true])/\w'=w:=by intro w;go_enter Tryz.func142,Tryz.ntmps142;go_wp2_with (go_at_call 96;refine (H.out _).mono ?_;rintro e w1 ⟨rfl,hw⟩;obtain rfl:=hw.symm);go_ret2;exact⟨rfl,rfl⟩
 have HK:=af k;clear k;go_enter Tryz.func78,Tryz.ntmps78;go_wp2_with (go_at_call 142;refine (HK.out _).mono ?_;rintro e w1 ⟨rfl,hw⟩;obtain rfl:=hw.symm);go_ret2;exact⟨rfl,rfl⟩
set_option maxRecDepth 100000
abbrev Rf:=Nm×Nm
def iM (x:Rf):List Value:=[.string (str x.1),.string (str x.2)]
theorem YM:aw Tryz.prog 84 87 (.agg #[.string ⟨#[]⟩,.string ⟨#[]⟩]) 2 32:=aw.of Tryz.underlying84 (by kernel_rfl) rfl (by decide)
theorem Kp (rs:List Rf):(rs.flatMap iM).length=rs.length*2:=by
 induction rs with
 | nil=>rfl
 | cons x r ih=>rw[qd,aG,ih,dw];simp[iM];omega
theorem zdk (rs:List Rf):∀u∈rs.flatMap iM,u.oneCell'=true:=by intro u hu;obtain⟨x,_,hx⟩:=List.mem_flatMap.1 hu;simp only[iM,eX,mV,or_false]at hx;rcases hx with rfl|rfl<;>rfl
theorem C7 {rs:List Rf} {i:Nat} {x:Rf} (h:rs[i]?=some x):(rs.flatMap iM)[i*2]?=some (.string (str x.1))/\(rs.flatMap iM)[i*2+1]?=some (.string (str x.2)):=by
 induction rs generalizing i with
 | nil=>cases h
 | cons y r ih=>
  rw[qd];cases i with
  | zero=>
   obtain rfl:y=x:=by simpa using h
   exact⟨rfl,rfl⟩
  | succ j=>have:=ih (i:=j) (by simpa using h);rw[show (j+1)*2=j*2+1+1 by omega];exact this
structure yr (w:World) (a:OA) (c:Nat) (rs:List Rf):Prop where
 cs:Cs w a (rs.flatMap iM)
 le:rs.length<=c
 max:c<=maxLen
 nil:a=none->c=0
theorem yr.fr {S:LN} {w w':World} {a:OA} {c:Nat} {rs:List Rf} (h:yr w a c rs) (f:Fr S w w') (hS:∀x∈ag a,x∉S):yr w' a c rs:=⟨h.cs.fr f hS,h.le,h.max,h.nil⟩
def Oa (w:World) (rs:List Rf) (e:Ending) (w':World):Prop:=∃a c,e = .returned (.slice a rs.length c)/\(yr w' a c rs/\∀y∈ag a,w.heap.size<=y)/\Fr [] w w'
theorem qw5 (ao:OA) (cap:Nat) (rs:List Rf) (w:World) (h:yr w ao cap rs) (tJ:rs.length<=1000) :
  Calls Tryz.prog 132 #[.slice ao rs.length cap] w (Oa w rs):=by
 have qT:∀(w:World) (a:OA) (n c n' c':Nat),(binOp .eql 84 (.slice a n c) (.slice none n' c')).run Tryz.prog w = .ok (.bool a.isNone) w:=λw a n c n' c'=>Lib.run_eql_slice_nil w _ _ a n c n' c' Tryz.underlying84
 have hcs:=h.cs;have hle:=h.le;have bU:=h.nil;cases ao with
 | none=>
  have h0:=bU rfl;obtain rfl:rs=[]:=sr (by omega);go_enter Tryz.func132,Tryz.ntmps132;go_wp2;go_ret;exact⟨none,0,rfl,⟨⟨.inl rfl,ax _,by decide,λ_=>rfl⟩,by simp[ag]⟩,Fr.refl _ _⟩
 | some a=>go_enter Tryz.func132,Tryz.ntmps132;go_wp2_with (refine fq YM rfl _ _ rfl (.slice (some ⟨w.heap.size,0,none⟩) 0 0) 0 [] [w.heap.size] rfl rfl ⟨rfl,.inr ⟨w.heap.size,0,#[],rfl,eE _,aV _ _,ax _,eE _,rfl,rfl⟩⟩ (some a) rs.length cap (rs.flatMap iM) rfl hle bU (hcs.fr ((Fr.refl [] w).alloc _) (by simp)) (Kp rs) (zdk rs) (by omega) (by unfold maxLen;omega) ?_;intro j9 gh w1 A1;simp only[iN,sS]at A1);go_ret;refine⟨j9,gh,rfl,⟨⟨?_,A1.le,A1.max,A1.nil⟩,λy hy=>(A1.at_ y hy).elim (λh=>by simp at h;omega) (λh=>by rw[h,ik];omega)⟩,((Fr.refl [] w).alloc _).step A1.fr (by simp)⟩;exact qm4 A1.own
theorem qq0 (a:OA) (n c:Nat) (w:World) (hle:n<=c) (dE:c<=maxLen):Calls Tryz.prog 80 #[.slice a n c] w λe w'=>e = .returned (.slice a n n)/\w'=w:=by
 go_enter Tryz.func80,Tryz.ntmps80;go_wp2;all_goals go_ret
 all_goals exact⟨by first|rfl|simp,rfl⟩
theorem zdm (x y:Rf) (w:World):Calls Tryz.prog 160 #[.agg #[.string (str x.1),.string (str x.2)],.agg #[.string (str y.1),.string (str y.2)]] w λe w'=>e = .returned (.int .i64 (Lib.compareBytes x.1 y.1))/\Fr [] w w':=by
 have hc:=λw=>Tryz.strings_Compare (str x.1) (str y.1) w
 rw[show (str x.1).data.toList=x.1 from rfl,show (str y.1).data.toList=y.1 from rfl]at hc;obtain⟨X,hX⟩:=ah (Lib.compareBytes x.1 y.1);rw[<-hX]at hc ⊢;have H:=af hc;clear hc hX;go_enter Tryz.func160,Tryz.ntmps160;go_wp2_with (go_at_call 161;refine (H.out _).mono ?_;rintro e w1 ⟨rfl,hw⟩;obtain rfl:=hw.symm);go_ret;exact⟨rfl,((Fr.refl [] w).alloc _).alloc _⟩
set_option maxRecDepth 100000
theorem ql7 (a:OA) (n c:Nat) (w:World) (hn:n<=1) :
  Calls Tryz.prog 263 #[.slice a n c,.int .i64 0,.int .i64 n,.func (.func 160) #[] #[]] w λe w'=>e = .returned (.tuple #[])/\Fr [] w w':=by
 have hd:decide ((1:Int)<(n:Int))=false:=by simp;omega
 go_enter Tryz.func263,Tryz.ntmps263;go_wp2;go_loopg [8,9] 0 (λk s8 s9 wr=>s8 = .int .i64 1/\wr=w);case atStart=>exact⟨rfl,rfl⟩
 case round=>obtain⟨rfl,rfl⟩:=hrel;go_wp2;(try simp only[Exit.inBlock,Exit.then]);refine bodyPost_end (results_none rfl _ _ _) rfl ?_;exact⟨rfl,Fr.refl _ _⟩
theorem qs4 (a:OA) (c:Nat) (x y:Rf) (w:World) (h:yr w a c [x,y]) (hs:0<=Lib.compareBytes y.1 x.1) :
  Calls Tryz.prog 263 #[.slice a 2 c,.int .i64 0,.int .i64 2,.func (.func 160) #[] #[]] w λe w'=>e = .returned (.tuple #[])/\Fr [] w w':=by
 obtain⟨g,o,rfl,hc⟩:=h.cs.at (by simp[iM]);have d0:=hc 0 _ rfl;have d1:=hc 1 _ rfl;have d2:=hc 2 _ rfl;have d3:=hc 3 _ rfl;have kE:=zdm y x;obtain⟨X,hX⟩:=ah (Lib.compareBytes y.1 x.1);rw[<-hX]at hs;have hX':∀w,Calls Tryz.prog 160 #[.agg #[.string (str y.1),.string (str y.2)],.agg #[.string (str x.1),.string (str x.2)]] w λe w'=>e = .returned (.int .i64 X)/\Fr [] w w':=by rw[hX];exact kE
 have H:=aQ hX' d0 d1 d2 d3;clear h hc hX hX' kE d0 d1 d2 d3;go_enter Tryz.func263,Tryz.ntmps263;go_wp2;go_loopg [8,9] 1 (λk s8 s9 wr=>∃i:Nat,s8 = .int .i64 (i:Nat)/\i+k=2/\1<=i/\Fr [] w wr);case atStart=>exact⟨1,rfl,by omega,by omega,Fr.refl _ _⟩
 case round=>
  obtain⟨i,rfl,cQ,h1i,f⟩:=hrel;by_cases hi:i=1
  ·obtain rfl:gk=0+1:=by omega
   subst hi;have F:=af f;clear f cQ;go_wp2;go_loopg [9] 0 (λk s9 Ey=>s9 = .int .i64 1/\Ey=wr);case atStart=>exact⟨rfl,rfl⟩
   case round=>
    obtain⟨rfl,rfl⟩:=hrel;have s0:∀x,(sup [] wr.drew x).cell? ⟨g,o,none⟩=_:=λz=>(gB [] wr.drew z).cell (show wr.drew.cell? _=_ from F.out.cell H.o1 (by simp)) (by simp)
    have s1:∀x,(sup [] wr.drew x).cell? ⟨g,o+1,none⟩=_:=λz=>(gB [] wr.drew z).cell (show wr.drew.cell? _=_ from F.out.cell H.o2 (by simp)) (by simp)
    have s2:∀x,(sup [] wr.drew x).cell? ⟨g,o+2,none⟩=_:=λz=>(gB [] wr.drew z).cell (show wr.drew.cell? _=_ from F.out.cell H.o3 (by simp)) (by simp)
    have s3:∀x,(sup [] wr.drew x).cell? ⟨g,o+3,none⟩=_:=λz=>(gB [] wr.drew z).cell (show wr.drew.cell? _=_ from F.out.cell H.l4 (by simp)) (by simp)
    have hd:decide (X<0)=false:=by simp;omega
    go_upto_region 4 with fail;refine lK 17 [(false,0),(false,1),(false,2),(false,3),(false,4),(false,5),(false,6),(false,7),(false,8),(false,9),(false,10),(false,11),(false,12),(false,13),(true,14),(false,15),(false,16)] [] (by kernel_rfl) (by kernel_rfl) (λ_ _ d _ _ h=>by cases d<;>exact h) ?_;simp only[kQ];refine eD 14 rfl ?_;simp only[cT];repeat (go_big_quiet_step (fail))
    refine wpQuiet_nil ?_;refine jb rfl ?_;intro K hK;go_wp2_with (go_at_call 160;(refine (H.o0 _).mono ?_;rintro e w1 ⟨rfl,f1⟩));refine hK.out _ _ f1 ?_;clear hK K s0 s1 s2 s3;have H1:=af f1;clear f1;refine eD 2 rfl ?_;simp only[cT];repeat (go_big_quiet_step (fail))
    refine wpQuiet_nil ?_;refine j4 ?_;go_wp2;go_roundg 0;case measure=>omega
    case rel=>exact⟨2,rfl,by omega,by omega,(F.out.trans (Fr.aB [] wr)).trans H1.out⟩
  ·obtain rfl:i=2:=by omega
   obtain rfl:gk=0:=by omega
   go_wp2;(try simp only[Exit.inBlock,Exit.then]);refine bodyPost_end (results_none rfl _ _ _) rfl ?_;exact⟨rfl,f⟩
end ob
namespace fs
open Go Go.RowKit lib pk
variable {w w':World} {av lab:Nat->Option Lb} {F M n x:Nat} {t:Nm->Option (List UInt8)}
set_option maxRecDepth 100000
theorem YF (w:World) (t:LB) (p:Nat) (hp:p<t.length) (h:(t[p]'hp).toNat<128) (ty:TypeId) :
  (Instr.next (.pointer (some ⟨w.heap.size,0,none⟩)) true ty).run Tryz.prog (w.iter (str t) p) = .ok (.tuple #[.bool true,.int .i64 p,.int .i32 (((t[p]'hp).toNat:Nat):Int)]) (w.iter (str t) (p+1)):=by
 have hs:p<(str t).size:=by rw[aj];exact hp
 have e:(str t)[p]'hs=t[p]'hp:=by show t.toArray[p]'(by simpa using hp)=t[p];rfl
 have:=run_next_ascii (P:=Tryz.prog) w (str t) p ty hs (by rw[e];exact h);rw[e]at this;exact this
theorem YE (w:World) (t:LB) (p:Nat) (hp:¬p<t.length) (ty:TypeId) :
  (Instr.next (.pointer (some ⟨w.heap.size,0,none⟩)) true ty).run Tryz.prog (w.iter (str t) p) = .ok (.tuple #[.bool false]) (w.iter (str t) p):=
 run_next_end (P:=Tryz.prog) w (str t) p ty (by rw[aj];exact hp)
theorem RL (w:World) (z:ByteArray) (p:Nat):Fr [] w (w.iter z p):=(Fr.refl [] w).alloc _
def DG (p:LB):Bool:=p !=[]&&p.head? !=some 46&&!Lib.hasSuffix p [46,108,111,99,107]
structure mP (s:LB) (fh:List (List UInt8)):Prop where
 len:s.length<=17
 plain:∀c∈s,33<=c.toNat/\c.toNat<127/\Lib.indexByte [126,94,58,63,42,91,92] c = -1
 pre:Lib.hasPrefix s [114,101,102,115,47]=true
 split:Lib.splitB ⟨#[47]⟩ 0 (Lib.countB (str s) ⟨#[47]⟩) (str s)=fh.map str
 count:Lib.countB (str s) ⟨#[47]⟩+1=fh.length
 parts:∀p∈fh,DG p=true
 few:fh.length<=18/\∀p∈fh,p.length<=17
 dots:Lib.contains s [46,46]=false
 at_:Lib.contains s [64,123]=false
 dot:Lib.hasSuffix s [46]=false
theorem KM (s:LB) (fh:List (List UInt8)) (h:mP s fh) (m:Int) (w:World) (hm:w.cell? ⟨2,0,none⟩=some (.int .i64 m)) :
  Calls Tryz.prog 16 #[.string (str s)] w λe w'=>e = .returned (.bool true)/\Fr [] w w':=by
 have cZ:(str s).size=s.length:=aj s;have hv:=λw'=>Um s (λc hc=>by have:=(h.plain c hc).2.1;omega) h.len w'
 have Vc:∀w',Calls Tryz.prog 17 #[.string (str s),.string ⟨#[114,101,102,115,47]⟩] w' λe fK=>e = .returned (.bool true)/\fK=w':=λw'=>by have:=Tryz.strings_HasPrefix (str s) ⟨#[114,101,102,115,47]⟩ w';rw[show Lib.hasPrefix (str s).data.toList (⟨#[114,101,102,115,47]⟩:ByteArray).data.toList=true from h.pre]at this;exact this
 have yf:∀w',w'.cell? ⟨2,0,none⟩=some (.int .i64 m)->Calls Tryz.prog 48 #[.string (str s),.string ⟨#[47]⟩] w' λe fK=>e = .returned (.slice (some ⟨w'.heap.size,0,none⟩) fh.length fh.length)/\fK=w'.alloc (.cells ((fh.map str).map Value.string).toArray 9):=λw' uV=>by have:=Tryz.strings_Split (str s) ⟨#[47]⟩ m w' (by have:=h.len;omega) uV (by decide);rw[h.split,h.count]at this;exact this
 have sD:∀sub:List UInt8,Lib.contains s sub=false->∀w',w'.cell? ⟨2,0,none⟩=some (.int .i64 m)->Calls Tryz.prog 50 #[.string (str s),.string (str sub)] w' λe fK=>e = .returned (.bool false)/\fK=w':=λsub hb w' uV=>by have:=Tryz.strings_Contains (str s) (str sub) m w' (by have:=h.len;omega) uV;rw[show Lib.contains (str s).data.toList (str sub).data.toList=false from hb]at this;exact this
 have bR:∀w',w'.cell? ⟨2,0,none⟩=some (.int .i64 m)->Calls Tryz.prog 50 #[.string (str s),.string ⟨#[46,46]⟩] w' λe fK=>e = .returned (.bool false)/\fK=w':=sD [46,46] h.dots
 have gp:∀w',w'.cell? ⟨2,0,none⟩=some (.int .i64 m)->Calls Tryz.prog 50 #[.string (str s),.string ⟨#[64,123]⟩] w' λe fK=>e = .returned (.bool false)/\fK=w':=sD [64,123] h.at_
 have y8:∀w',Calls Tryz.prog 49 #[.string (str s),.string ⟨#[46]⟩] w' λe fK=>e = .returned (.bool false)/\fK=w':=λw'=>by have:=Tryz.strings_HasSuffix (str s) ⟨#[46]⟩ w' (by have:=h.len;omega);rw[show Lib.hasSuffix (str s).data.toList (⟨#[46]⟩:ByteArray).data.toList=false from h.dot]at this;exact this
 obtain⟨z,hz⟩:=ah (str s);rw[<-hz]at hv Vc yf bR gp y8 cZ ⊢;have d1:decide ((100:Int)<(s.length:Int))=false:=by have:=h.len;simp;omega
 obtain⟨L,hL⟩:=ah s.length;rw[<-hL]at cZ d1;have H:=eW hv Vc yf bR gp y8 h;have HZ:=aq hz hL hm;clear hv Vc yf sD bR gp y8 h hz hL hm;go_enter Tryz.func16,Tryz.ntmps16;go_upto_region 3 with (first
  | (go_at_call 46;refine (H.out.1 _).mono ?_;rintro e w1 ⟨rfl,f1⟩;have H1:=af f1;clear f1)
  | (go_at_call 17;refine (H.out.2.1 _).mono ?_;rintro e w2 ⟨rfl,hw⟩;obtain rfl:=hw.symm))
 have uR:(Instr.range 9 (.string z)).run Tryz.prog w1 = .ok (.pointer (some ⟨w1.heap.size,0,none⟩)) (w1.iter z 0):=run_range_string (P:=Tryz.prog) w1 9 z Tryz.underlying9;go_wp2;clear uR;clear hw;go_loopg [] L (λk wr=>∃p:Nat,p+k=L/\wr=w1.iter z p);case atStart=>exact⟨0,by omega,rfl⟩
 case round=>
  obtain⟨p,oT,rfl⟩:=hrel;have qU:Fr [] w (w1.iter z p):=H1.out.trans (RL w1 z p);by_cases hp:p<L
  ·obtain⟨k,rfl⟩:∃k,gk=k+1:=⟨gk-1,by omega⟩;have uw:p<s.length:=by rw[<-HZ.o1];exact hp
   obtain⟨c1,c2,c3⟩:=H.out.2.2.2.2.2.2.plain s[p] (sk uw);have jZ:=λty=>YF w1 s p uw (by omega) ty
   have Jr:=λw'=>Tryz.strings_ContainsRune_ascii ⟨#[126,94,58,63,42,91,92]⟩ ((s[p].toNat:Nat):Int) w' (by omega) (by omega)
   have e1:(((s[p].toNat:Nat):Int)).toNat.toUInt8=s[p]:=by rw[xZ];exact UInt8.ofNat_toNat
   have e2:decide (0<=Lib.indexByte (⟨#[126,94,58,63,42,91,92]⟩:ByteArray).data.toList (((s[p].toNat:Nat):Int)).toNat.toUInt8)=false:=by rw[e1];show decide (0<=Lib.indexByte [126,94,58,63,42,91,92] s[p])=false;rw[c3];decide
   rw[e2]at Jr;rw[<-HZ.o0]at jZ;obtain⟨x,hx⟩:=ah ((s[p]).toNat);rw[<-hx]at jZ Jr c1 c2;have g1:decide ((x:Int)<33)=false:=by simp;omega
   have g2:((x:Int)==127)=false:=by simp only[beq_eq_false_iff_ne];omega
   have HC:=af Jr;clear hx e1 e2 Jr c3 uw qU;go_wp2_with (go_at_call 47;refine (HC.out _).mono ?_;rintro e w2 ⟨rfl,hw⟩;obtain rfl:=hw.symm);go_roundg k;case measure=>omega
   case rel=>exact⟨p+1,by omega,rfl⟩
  ·have jZ:=λty=>YE w1 s p (by rw[<-HZ.o1];exact hp) ty
   rw[<-HZ.o0]at jZ;obtain⟨w2,cC⟩:=ah (w1.iter z p);rw[<-cC]at jZ qU ⊢;have H2:=ai qU (qU.cell HZ.l2 (by simp));clear qU cC hp oT;go_upto_block 2 with (go_at_call 48;refine (H.out.2.2.1 _ H2.l1).mono ?_;rintro e w3 ⟨rfl,hw⟩;have H3:=af hw;clear hw);obtain⟨g,hg⟩:=ah w2.heap.size;rw[<-hg];obtain⟨N,hN⟩:=ah fh.length;rw[<-hN];have hNb:N<=18:=by rw[hN];exact H.out.2.2.2.2.2.2.few.1
   have f3:Fr [] w w3:=by rw[H3.out];exact H2.o0.alloc _
   have uA:w3.heap[g]?=some (.cells ((fh.map str).map Value.string).toArray 9 (0,0)):=by rw[H3.out,hg];exact aV w2 _
   have H4:=aA f3 uA hN (f3.cell HZ.l2 (by simp));clear f3 uA hN hg jZ;go_wp2;go_loopg [38] N (λk s38 wr=>∃i:Nat,s38 = .int .i64 (i:Nat)/\i+k=N/\wr=w3);case atStart=>exact⟨0,rfl,by omega,rfl⟩
   case round=>
   obtain⟨i,rfl,cQ,rfl⟩:=hrel;by_cases hi:i<N
   ·obtain⟨k,rfl⟩:∃k,gk=k+1:=⟨gk-1,by omega⟩;have cN:i<fh.length:=by rw[<-H4.o2];exact hi
    have tE:=H.out.2.2.2.2.2.2.parts fh[i] (sk cN);have sG:wr.cell? ⟨g,i,none⟩=some (.string (str fh[i])):=by rw[cell_of H4.o1];simp[cN]
    have FK:=H.out.2.2.2.2.2.2.few.2 fh[i] (sk cN);obtain⟨pl,jq⟩:=ah (fh[i]);rw[<-jq]at tE sG FK;clear jq cN;cases pl with
    | nil=>cases tE
    | cons c t=>
    unfold DG at tE;simp only[kI,bne_iff_ne,ne_eq,Bool.not_eq_true',List.head?_cons,fI]at tE;have hx:∀w:World,(Instr.index 9 (.string (str (c::t))) (.int .i64 0)).run Tryz.prog w = .ok (.int .u8 (c.toNat:Nat)) w:=λw=>Go.Proofs.YticadfhpolhkeaaGreatDoor.crc.BH (c::t) (i:=0) (by simp) w
    have y8:∀w',Calls Tryz.prog 49 #[.string (str (c::t)),.string ⟨#[46,108,111,99,107]⟩] w' λe fK=>e = .returned (.bool false)/\fK=w':=λw'=>by have:=Tryz.strings_HasSuffix (str (c::t)) ⟨#[46,108,111,99,107]⟩ w' (by rw[aj];omega);rw[show Lib.hasSuffix (str (c::t)).data.toList (⟨#[46,108,111,99,107]⟩:ByteArray).data.toList=false from tE.2]at this;exact this
    have bg:(str (c::t)).toList.isEmpty=false:=by rw[ay];rfl
    have g2:(((c.toNat:Nat):Int)==46)=false:=by
     have:c.toNat≠46:=λe=>tE.1.2 (C9.1 e)
     simp only[beq_eq_false_iff_ne];omega
    obtain⟨y,hy⟩:=ah (str (c::t));rw[<-hy]at sG hx y8 bg;obtain⟨n,hn⟩:=ah c.toNat;rw[<-hn]at hx g2;have HS:=af y8;clear y8 hy hn tE FK;go_wp2_with (go_at_call 49;refine (HS.out _).mono ?_;rintro e w2 ⟨rfl,hw⟩;obtain rfl:=hw.symm);go_roundg k;case measure=>omega
    case rel=>exact⟨i+1,by go_num,by omega,rfl⟩
   ·obtain rfl:i=N:=by omega
    go_wp2_with (first
     | (guard_hyp H6;go_at_call 49;refine (H.out.2.2.2.2.2.1 _).mono ?_;rintro e w2 ⟨rfl,hw⟩;obtain rfl:=hw.symm)
     | (guard_hyp H5;go_at_call 50;refine (H.out.2.2.2.2.1 _ H4.l3).mono ?_;rintro e w2 ⟨rfl,hw⟩;have H6:=af hw;obtain rfl:=hw.symm)
     | (go_at_call 50;refine (H.out.2.2.2.1 _ H4.l3).mono ?_;rintro e w2 ⟨rfl,hw⟩;have H5:=af hw;obtain rfl:=hw.symm))
    go_ret;exact⟨rfl,H4.o0⟩
set_option maxRecDepth 100000
def mY:Nm:=[46,108,111,99,107]
theorem zef (k:Nm):(str k++(⟨#[46,108,111,99,107]⟩:ByteArray))=str (k++mY):=by rw[<-gH];rfl
theorem qs7 (R F n M M':Nat) (t:Nm->Option (List UInt8)) (lab:Nat->Option Lb) (k:Nm) (ba:OA) (bc:Nat) (nb:LB) (w:World) (hR:qC w R F) (MN:lab R=none) (h:Fs w F n M t lab) (oZ:lF (k++mY)) (j3:lF k) (ht:t (k++mY)=none) (hb:lib.Rd w ba bc nb) (dW:nb≠[]->∀x∈ag ba,lab x=none)
  (yo:M<=M') (qy:nb.length<=M') (iV:M'<=100000) (dh:nb.length+(n+1)*M<=1048576) (hn:n<880) :
  Calls Tryz.prog 145 #[.pointer (some ⟨R,0,none⟩),.string (str k),.slice ba nb.length bc] w λe w'=>e = .returned (.int .i64 0)/\∃av,Fs w' F (n+2) M' (aS t k (some nb)) av/\dS w lab w' av:=by
 have c0:w.cell? ⟨R,0,none⟩=some (.pointer (some ⟨F,0,none⟩)):=by rw[cell_of hR];rfl
 have bg:k++mY≠k:=λe=>by have:=congrArg List.length e;simp[mY]at this
 have vY:=ZA F n M M' t lab (k++mY) k ba bc nb w h oZ j3 bg ht hb dW yo qy iV dh hn;have fE:=zef k;have hzs:(str k).size<=200:=by rw[aj];exact j3.2.1
 obtain⟨z,hz⟩:=ah (str k);obtain⟨y,hy⟩:=ah (str (k++mY));rw[<-hz]at vY fE hzs ⊢;rw[<-hy]at vY fE;obtain⟨L,hL⟩:=ah nb.length;rw[<-hL]at vY ⊢;have H:=aA vY fE hR MN;clear vY fE hR hz hy hL h hb dW ht MN oZ j3 bg;go_enter Tryz.func145,Tryz.ntmps145;go_upto_region 5 with (rw[H.o1];go_at_call 67;refine H.o0.mono ?_;rintro e w1 ⟨rfl,oN,h1,s1⟩;have H1:=ai h1 s1;clear h1 s1);have c1:w1.cell? ⟨R,0,none⟩=some (.pointer (some ⟨F,0,none⟩)):=by obtain⟨⟨T,f,hT⟩,_⟩:=H1.out.2;rw[cell_of (f.ag H.o2 (λhm=>hT R hm H.l3))];rfl
 have HS:=af (PQ F _ _ _ oN w1 H1.out.1);go_wp2_with (go_at_call 69;refine HS.out.mono ?_;rintro e w2 ⟨rfl,h2,s2⟩;have H2:=ai h2 s2;clear h2 s2);go_ret;exact⟨rfl,oN,H2.o0,H1.out.2.trans H2.l1⟩
def kX:Nm:=[72,69,65,68]
def aP:Nm:=[114,101,102,115,47,104,101,97,100,115,47,109,97,105,110]
def gf (s:Nm):List UInt8:=[114,101,102,58,32]++s++[10]
theorem OY:mP aP [[114,101,102,115],[104,101,97,100,115],[109,97,105,110]]:=
 ⟨by decide,by decide,by decide,by rfl,by rfl,by decide,by decide,by decide,by decide,by decide⟩
theorem qsz (R F n M M':Nat) (t:Nm->Option (List UInt8)) (lab:Nat->Option Lb) (s:Nm) (fh:List Nm) (hs:mP s fh) (m:Int) (w:World) (hR:qC w R F) (MN:lab R=none) (h:Fs w F n M t lab) (ht:t (kX++mY)=none)
  (yo:M<=M') (qy:30<=M') (iV:M'<=100000) (dh:30+(n+1)*M<=1048576) (hn:n<880) (hm:w.cell? ⟨2,0,none⟩=some (.int .i64 m)) :
  Calls Tryz.prog 87 #[.pointer (some ⟨R,0,none⟩),.string (str s)] w λe w'=>e = .returned (.int .i64 0)/\∃av,Fs w' F (n+2) M' (aS t kX (some (gf s))) av/\dS w lab w' av:=by
 have hv:=KM s fh hs m w hm;have hlen:(gf s).length<=30:=by have:=hs.len;simp[gf];omega
 have fE:((⟨#[114,101,102,58,32]⟩:ByteArray)++str s++(⟨#[10]⟩:ByteArray))=str (gf s):=by unfold gf;rw[<-gH,<-gH];rfl
 have cZ:(str s).size<=17:=by rw[aj];exact hs.len
 obtain⟨z,hz⟩:=ah (str s);rw[<-hz]at hv fE cZ ⊢;have H:=cU hv fE hR MN h ht;have HL:=af hlen;clear hv fE hR MN h ht hz hs hlen hm;go_enter Tryz.func87,Tryz.ntmps87;go_wp2_with (first
  | (go_at_call 16;refine H.out.1.mono ?_;rintro e w1 ⟨rfl,f1⟩;have H1:=af f1;clear f1)
  | (refine IY (e:=5) Tryz.underlying9 Tryz.underlying35 Tryz.underlying5 rfl _ rfl (gf _) (by exact congrArg Value.string H.out.2.1) (by have:=HL.out;unfold maxLen;omega) ?_;intro cap w3 zC Je f3 zr;have H3:=af (And.intro Je (And.intro f3 (qs7 R F n M M' _ lab kX _ cap (gf s) w3 ((H1.out.trans f3).ag H.out.2.2.1 (by simp)) H.out.2.2.2.1 (H.out.2.2.2.2.1.fr (H1.out.trans f3) (by simp)) ⟨by decide,by decide,by decide⟩ ⟨by decide,by decide,by decide⟩ H.out.2.2.2.2.2 Je.rd (λ_ x hx=>by
    simp only[ag,eF]at hx
    cases AW:lab x with
    | none=>rfl
    | some l=>
     have h1:=H.out.2.2.2.2.1.low x (by rw[AW];exact nW _)
     have h2:=H1.out.size
     omega) yo (by have:=HL.out;omega) iV (by have:=HL.out;omega) hn)));clear Je f3 zr)
  | (go_at_call 145;refine H3.out.2.2.mono ?_;rintro e w4 ⟨rfl,qj,h4,s4⟩;have H4:=ai h4 s4;clear h4 s4))
 go_ret;exact⟨rfl,qj,H4.o0,(dS.refl w lab (H1.out.trans H3.out.2.1)).trans H4.l1⟩
theorem BA (h:dS w lab w' av) (hx:lab x=none) (hl:x<w.heap.size):av x=none:=by
 cases AW:av x with
 | none=>rfl
 | some l=>
  rcases h.2 x (by rw[AW];exact nW _) with h1|h1
  ·exact absurd hx h1
  ·omega
theorem yE (h:Fs w F n M t lab) (hx:w.heap.size<=x):lab x=none:=by
 cases AW:lab x with
 | none=>rfl
 | some l=>have:=h.low x (by rw[AW];exact nW _);omega
theorem Da (h:dS w lab w' av) {o:Obj} (hx:lab x=none) (hb:w.heap[x]?=some o):w'.heap[x]?=some o:=by obtain⟨⟨T,f,hT⟩,_⟩:=h;exact f.ag hb (λhm=>hT x hm hx)
theorem zdj (F n M:Nat) (t:Nm->Option (List UInt8)) (lab:Nat->Option Lb) (m:Int) (w:World) (h:Fs w F n M t lab) (ht:∀x,t x=none) (hM:30<=M) (dh:30+(n+1)*M<=1048576) (hn:n<880) (hm:w.cell? ⟨2,0,none⟩=some (.int .i64 m)) :
  Calls Tryz.prog 39 #[.pointer (some ⟨F,0,none⟩)] w λe w'=>∃R av,e = .returned (.tuple #[.pointer (some ⟨R,0,none⟩),.int .i64 0])/\qC w' R F/\w.heap.size<=R/\av R=none/\Fs w' F (n+2) M (aS t kX (some (gf aP))) av/\dS w lab w' av:=by
 have f0:Fr [] w (w.alloc (.cells #[.pointer (some ⟨F,0,none⟩)] 154)):=(Fr.refl [] w).alloc _;have vq:=aV w (.cells #[.pointer (some ⟨F,0,none⟩)] 154);obtain⟨R,hR⟩:=ah w.heap.size;obtain⟨w0,kz⟩:=ah (w.alloc (.cells #[.pointer (some ⟨F,0,none⟩)] 154));rw[<-kz]at f0 vq;rw[<-hR]at vq;have rd:∀(k:Nm),lF k->∀w',Fr [] w w'->Calls Tryz.prog 65 #[.pointer (some ⟨F,0,none⟩),.string (str k)] w' λe fK=>e = .returned (.tuple #[.slice none 0 0,.int .i64 61])/\Fr [] w' fK:=λk hk w' f=>by have:=xW F n M t lab k w' (h.fr f (by simp)) hk;rw[ht]at this;exact this
 have Hp:=rd [114,101,102,115,45,112,108,97,110,46,108,111,99,107] ⟨by decide,by decide,by decide⟩;have ru:=rd [112,97,99,107,101,100,45,114,101,102,115] ⟨by decide,by decide,by decide⟩;have JU:=rd [72,69,65,68] ⟨by decide,by decide,by decide⟩;have Ce:=λw' (f:Fr [] w0 w')=>qsx R F n M t lab w' (f.ag vq (by simp)) (h.fr (f0.trans f) (by simp)) ht
 have uQ:=λw' (f:Fr [] w0 w')=>qsz R F n M M t lab aP _ OY m w' (f.ag vq (by simp)) (yE h (by rw[hR];exact ax _)) (h.fr (f0.trans f) (by simp)) (ht _) (ax _) hM h.most dh hn ((f0.trans f).cell hm (by simp))
 have H:=aQ Hp ru JU Ce uQ;have HW:=aQ hR kz f0 vq (yE h (x:=R) (by rw[hR];exact ax _));clear rd Hp ru JU Ce uQ hR kz f0 vq h ht hm;go_enter Tryz.func39,Tryz.ntmps39;go_upto_region 4 with fail;rw[<-HW.o1,<-HW.o0];go_upto_region 8 with (go_at_call 65;refine (H.o0 _ HW.o2).mono ?_;rintro e w1 ⟨rfl,f1⟩;have H1:=af f1;clear f1);go_upto_region 11 with (go_at_call 73;refine (H.o3 _ H1.out).mono ?_;rintro e w2 ⟨rfl,f2⟩;have H2:=af (H1.out.trans f2);clear f2);go_upto_region 16 with (go_at_call 65;refine (H.o1 _ (HW.o2.trans H2.out)).mono ?_;rintro e w3 ⟨rfl,f3⟩;have H3:=af (H2.out.trans f3);clear f3);go_wp2_with (first
  | (go_at_call 65;refine (H.o2 _ (HW.o2.trans H3.out)).mono ?_;rintro e w4 ⟨rfl,f4⟩;have H4:=af (H3.out.trans f4);clear f4)
  | (go_at_call 87;refine (H.l4 _ H4.out).mono ?_;rintro e w5 ⟨rfl,mI,h5,s5⟩;have H5:=ai h5 s5;clear h5 s5))
 go_ret2;have hR4:=H4.out.ag HW.o3 (by simp);exact⟨R,mI,rfl,Da H5.l1 HW.l4 hR4,by rw[HW.o0];exact ax _,BA H5.l1 HW.l4 (lt_of_block hR4),H5.o0,(dS.refl w lab (HW.o2.trans H4.out)).trans H5.l1⟩
theorem Fs.more {M':Nat} (h:Fs w F n M t lab) (hM:M<=M') (h2:M'<=100000):Fs w F n M' t lab:=by obtain⟨⟨q,B,dz,bj,m,vs,g,hq,h1,uC,h3,h4,h5,h6,h7,h8,h9,iC⟩,kM,yo,ef⟩:=h;exact⟨⟨q,B,dz,bj,m,vs,g,hq,h1,uC,h3,h4,h5,h6,h7,h8,λk bs hk=>⟨bP (h9 k bs hk).1 hM,(h9 k bs hk).2⟩,iC⟩,kM,h2,ef⟩
structure zX (w:World) (r O R F:Nat):Prop where
 box:w.heap[r]?=some (.cells #[.pointer (some ⟨O,0,none⟩),.pointer (some ⟨R,0,none⟩),.pointer (some ⟨F,0,none⟩)] 33 (0,0))
 refs:qC w R F
 store:∃m,w.heap[O]?=some (.cells #[.pointer (some ⟨F,0,none⟩),.map (some m)] 79 (0,0))
theorem qzj (F n M:Nat) (t:Nm->Option (List UInt8)) (lab:Nat->Option Lb) (m:Int) (w:World) (h:Fs w F n M t lab) (ht:∀x,t x=none) (hM:30<=M) (dh:30+(n+1)*M<=1048576) (hn:n<880) (hm:w.cell? ⟨2,0,none⟩=some (.int .i64 m)) :
  Calls Tryz.prog 12 #[.pointer (some ⟨F,0,none⟩)] w λe w'=>∃r O R av,e = .returned (.tuple #[.pointer (some ⟨r,0,none⟩),.int .i64 0])/\zX w' r O R F/\(w.heap.size<=r/\w.heap.size<=O/\w.heap.size<=R)/\(av r=none/\av O=none/\av R=none)/\Fs w' F (n+2) M (aS t kX (some (gf aP))) av/\dS w lab w' av:=by
 have ho:=(zd1 F n M t lab w h ht);have hr:=λw' (f:Fr [] w w')=>zdj F n M t lab m w' (h.fr f (by simp)) ht hM dh hn (f.cell hm (by simp))
 have H:=aq ho hr h;clear ho hr h ht hm;go_enter Tryz.func12,Tryz.ntmps12;go_wp2_with (first
  | (go_at_call 38;refine H.o0.mono ?_;rintro e w1 ⟨⟨O,mo,rfl,hO,Nw⟩,f1⟩;have H1:=aq hO f1 Nw;clear hO f1 Nw)
  | (go_at_call 39;refine (H.o1 _ H1.out.2.1).mono ?_;rintro e w2 ⟨R,qm,rfl,b2,l2,n2,h2,s2⟩;have H2:=aQ b2 l2 n2 h2 s2;clear b2 l2 n2 h2 s2))
 go_ret2;obtain⟨hO,f1,Nw⟩:=H1.out;obtain⟨b2,l2,n2,h2,s2⟩:=H2.out;have f3:Fr [] w2 (w2.alloc (.cells #[.pointer (some ⟨O,0,none⟩),.pointer (some ⟨R,0,none⟩),.pointer (some ⟨F,0,none⟩)] 33)):=(Fr.refl [] w2).alloc _;have hlO:=yE H.l2 Nw;have hO2:=Da s2 hlO hO;exact⟨_,O,R,qm,rfl,⟨aV w2 _,f3.ag b2 (by simp),mo,f3.ag hO2 (by simp)⟩,⟨bP f1.size s2.size,Nw,bP f1.size l2⟩,⟨yE h2 (ax _),BA s2 hlO (lt_of_block hO),n2⟩,h2.fr f3 (by simp),((dS.refl w lab f1).trans s2).trans (dS.refl _ _ f3)⟩
end fs
namespace ob
open Go Go.RowKit lib fs lo pk
variable {F M n:Nat} {t:Nm->Option (List UInt8)} {lab:Nat->Option Lb}
set_option maxRecDepth 100000
def JL (rs:List Rf):Prop:=rs.length<=2/\∀x y,rs=[x,y]->0<=Lib.compareBytes y.1 x.1
theorem qs5 (a:OA) (c:Nat) (rs:List Rf) (w:World) (h:yr w a c rs) (hf:JL rs) :
  Calls Tryz.prog 263 #[.slice a rs.length c,.int .i64 0,.int .i64 (rs.length:Nat),.func (.func 160) #[] #[]] w λe w'=>e = .returned (.tuple #[])/\Fr [] w w':=by
 match rs,h,hf with
 | [],h,hf=>exact ql7 a 0 c w (by omega)
 | [x],h,hf=>exact ql7 a 1 c w (by omega)
 | [x,y],h,hf=>exact qs4 a c x y w h (hf.2 x y rfl)
 | x::y::z::r,h,hf=>exact absurd hf.1 (by simp)
theorem qs1 (a:OA) (c:Nat) (rs:List Rf) (w:World) (h:yr w a c rs) (hf:JL rs) :
  Calls Tryz.prog 210 #[.slice a rs.length c,.int .i64 (rs.length:Nat),.func (.func 160) #[] #[]] w λe w'=>e = .returned (.tuple #[])/\Fr [] w w':=by
 have hi:=qs5 a c rs w h hf;have h2:=hf.1;obtain⟨n,hn⟩:=ah rs.length;rw[<-hn]at hi h2 ⊢;have d1:decide ((20:Int)<=(n:Int))=false:=by simp;omega
 have d2:decide ((20:Int)<(n:Int))=false:=by simp;omega
 have H:=af hi;clear hi h hf hn;go_enter Tryz.func210,Tryz.ntmps210;go_wp2;go_loopg [7,8] 0 (λk s7 s8 wr=>s7 = .int .i64 0/\s8 = .int .i64 20/\wr=w);case atStart=>exact⟨rfl,rfl,rfl⟩
 case round=>
  obtain⟨rfl,rfl,rfl⟩:=hrel;go_wp2_with (go_at_call 263;refine H.out.mono ?_;rintro e w1 ⟨rfl,f1⟩;have H1:=af f1;clear f1);go_loopg [6,7,8] 0 (λk s6 s7 s8 wr=>s6 = .int .i64 20/\wr=w1);case atStart=>exact⟨rfl,rfl⟩
  case round=>obtain⟨rfl,rfl⟩:=hrel;go_wp2;(try simp only[Exit.inBlock,Exit.then]);refine bodyPost_end (results_none rfl _ _ _) rfl ?_;exact⟨rfl,H1.out⟩
theorem qzf (a:OA) (c:Nat) (rs:List Rf) (w:World) (h:yr w a c rs) (hf:JL rs) :
  Calls Tryz.prog 159 #[.slice a rs.length c,.func (.func 160) #[] #[]] w λe w'=>e = .returned (.tuple #[])/\Fr [] w w':=by
 have H:=af (qs1 a c rs w h hf);clear h hf;go_enter Tryz.func159,Tryz.ntmps159;go_wp2_with (go_at_call 210;(with_reducible refine H.out.mono ?_);rintro e w1 ⟨rfl,f1⟩;have H1:=af f1;clear f1);(try simp only[Exit.inBlock,Exit.then]);refine bodyPost_end (results_none rfl _ _ _) rfl ?_;exact⟨rfl,H1.out⟩
theorem qs2 (a:OA) (c:Nat) (rs:List Rf) (w:World) (h:yr w a c rs) (hf:JL rs) :
  Calls Tryz.prog 102 #[.slice a rs.length c] w λe w'=>∃a',e = .returned (.slice a' rs.length rs.length)/\(Cs w' a' (rs.flatMap iM)/\∀y∈ag a',w.heap.size<=y)/\Fr [] w w':=by
 have fX:=qw5 a c rs w h (by have:=hf.1;omega);have H:=ai fX hf;obtain⟨n,hn⟩:=ah rs.length;have HN:=af hn;have Nh:Calls Tryz.prog 132 #[.slice a n c] w (Oa w rs):=by rw[hn];exact fX
 have H0:=af Nh;rw[<-hn];clear fX Nh h hf hn;go_enter Tryz.func102,Tryz.ntmps102;go_wp2_with (first
  | (go_at_call 132;(with_reducible refine H0.out.mono ?_);rintro e w1 ⟨a1,c1,rfl,⟨r1,n1⟩,f1⟩;have N1:=af n1;clear n1;have hs:=qzf a1 c1 rs w1 r1 H.l1;rw[<-HN.out]at hs ⊢;have H1:=aq r1 f1 hs;clear r1 f1 hs)
  | (go_at_call 159;(with_reducible refine H1.l2.mono ?_);rintro e w2 ⟨rfl,f2⟩;have H2:=af f2;clear f2)
  | (go_at_call 80;(with_reducible refine (qq0 _ _ _ _ (by rw[HN.out];exact H1.o0.le) H1.o0.max).mono ?_);rintro e w3 ⟨rfl,hw⟩;obtain rfl:=hw.symm))
 go_ret;exact⟨a1,rfl,⟨H1.o0.cs.fr H2.out (by simp),N1.out⟩,H1.o1.trans H2.out⟩
set_option maxRecDepth 100000
def gC:Nm:=[112,97,99,107,101,100,45,114,101,102,115]
def oA:Nm:=[114,101,102,115,47]
structure mO (t:Nm->Option (List UInt8)) (rs:List Rf):Prop where
 packed:t gC=none
 few:JL rs
 list:∀ss,Rq t ss->(ss.filter λs=>Lib.hasPrefix s oA)=rs.map (·.1)
 each:∀x∈rs,t x.1=some (x.2++[10])/\kP x.2/\∃fh,mP x.1 fh
theorem ziq {s:LB} {fh:List (List UInt8)} (h:mP s fh):lF s:=by
 refine⟨?_,by have:=h.len;omega,λc hc e=>?_⟩
 ·cases s with
  | nil=>exact absurd h.pre (by decide)
  | cons a b=>simp
 ·have:=(h.plain c hc).1;rw[e]at this;exact absurd this (by decide)
theorem ze2 {w:World} (h:Fs w F n M t lab):w.cell? ⟨F,5,none⟩=some (.bool false):=by obtain⟨⟨q,B,dz,bj,m,vs,g,hq,h1,_⟩,_⟩:=h;rw[cell_of h1];rfl
theorem Pe {w:World} (h:Fs w F n M t lab):Calls Tryz.prog 19 #[.pointer (some ⟨F,0,none⟩)] w λe w'=>e = .returned (.bool false)/\w'=w:=by have c:=ze2 h;clear h;go_enter Tryz.func19,Tryz.ntmps19;go_wp2;go_ret;exact⟨rfl,rfl⟩
theorem zed (R F n M:Nat) (t:Nm->Option (List UInt8)) (lab:Nat->Option Lb) (s id:Nm) (fh:List Nm) (m:Int) (w:World) (hR:qC w R F) (h:Fs w F n M t lab) (ht:t s=some (id++[10])) (hid:kP id) (hs:mP s fh) (hm:w.cell? ⟨2,0,none⟩=some (.int .i64 m)) :
  Calls Tryz.prog 100 #[.pointer (some ⟨R,0,none⟩),.string (str s)] w λe w'=>e = .returned (.tuple #[.string (str id),.bool true])/\Fr [] w w':=by
 have eY:=xW F n M t lab s w h (ziq hs);rw[ht]at eY;have hl:(id++[10]).length=41:=by rw[aG,hid.len];rfl
 have qs:Calls Tryz.prog 65 #[.pointer (some ⟨F,0,none⟩),.string (str s)] w λe w'=>∃a,e = .returned (.tuple #[.slice a 41 41,.int .i64 0])/\lib.Rd w' a 41 (id++[10])/\Fr [] w w':=by
  refine eY.mono λe w' h=>?_
  obtain⟨⟨a,he,hr,_⟩,f⟩:=h;rw[hl]at he hr;exact⟨a,he,hr,f⟩
 have hcs:=YV id [10] (by rw[hid.len];decide);have hv:=λw' (f:Fr [] w w')=>KM s fh hs m w' (f.cell hm (by simp))
 have hh:=λw'=>Au id w' (by rw[hid.len];decide)
 rw[hid.hash]at hh;have c0:=(cell_of hR 0).trans (show _=some (Value.pointer (some ⟨F,0,none⟩)) from rfl);obtain⟨Z,hZ⟩:=ah (str s);obtain⟨I,hI⟩:=ah (str id);obtain⟨J,hJ⟩:=ah (str (id++[10]));have hcv:∀(w:World) (a:OA),lib.Rd w a 41 (id++[10])->(convert 35 9 (.slice a 41 41)).run Tryz.prog w = .ok (.string J) w:=λw a hr=>by rw[hJ];exact xX w Tryz.underlying35 Tryz.underlying5 Tryz.underlying9 hl hr.cs 41
 rw[<-hZ]at qs hv ⊢;rw[<-hI]at hcs hh ⊢;rw[<-hJ,show str [10]=(⟨#[10]⟩:ByteArray) from rfl]at hcs;have H:=aQ qs hcs hv hh hcv;clear eY qs hcs hv hh hZ hI hJ hl ht hid hs h hm hR hcv;go_enter Tryz.func100,Tryz.ntmps100;go_upto_region 2 with (go_at_call 65;(refine H.o0.mono ?_;rintro e w1 ⟨a,rfl,r1,f1⟩;have H1:=ai r1 f1;clear r1 f1));have hcv:=H.l4 w1 a H1.o0;go_wp2_with (first
  | (go_at_call 78;(refine (H.o1 _).mono ?_;rintro e w2 ⟨rfl,hw⟩;obtain rfl:=hw.symm))
  | (go_at_call 16;(refine (H.o2 _ H1.l1).mono ?_;rintro e w3 ⟨rfl,f3⟩;have H3:=af f3;clear f3))
  | (go_at_call 116;(refine (H.o3 _).mono ?_;rintro e w4 ⟨rfl,f4⟩;have H4:=af f4;clear f4)))
 go_ret2;exact⟨rfl,(H1.l1.trans H3.out).trans H4.out⟩
theorem qq6 (R F n M:Nat) (t:Nm->Option (List UInt8)) (lab:Nat->Option Lb) (w:World) (hR:qC w R F) (h:Fs w F n M t lab) (ht:t gC=none) :
  Calls Tryz.prog 101 #[.pointer (some ⟨R,0,none⟩)] w λe w'=>e = .returned (.slice none 0 0)/\Fr [] w w':=by
 have eY:=xW F n M t lab gC w h ⟨by decide,by decide,by decide⟩;rw[ht]at eY;have c0:=(cell_of hR 0).trans (show _=some (Value.pointer (some ⟨F,0,none⟩)) from rfl);have hu:∀w,Calls Tryz.prog 86 #[.slice none 0 0] w λe w'=>e = .returned (.tuple #[.slice none 0 0,.int .i64 0])/\w'=w:=by intro w;go_enter Tryz.func86,Tryz.ntmps86;go_wp2;go_ret2;exact⟨rfl,rfl⟩
 unfold ui at eY;have H:=ai eY hu;clear eY hu ht h hR;go_enter Tryz.func101,Tryz.ntmps101;go_wp2_with (first
  | (go_at_call 65;(refine H.o0.mono ?_;rintro e w1 ⟨rfl,f1⟩;have H1:=af f1;clear f1))
  | (go_at_call 86;(refine (H.l1 _).mono ?_;rintro e w2 ⟨rfl,hw⟩;obtain rfl:=hw.symm)))
 go_ret;exact⟨rfl,H1.out⟩
end ob

end Go.Proofs.YticadfhpolhkeaaGreatDoor