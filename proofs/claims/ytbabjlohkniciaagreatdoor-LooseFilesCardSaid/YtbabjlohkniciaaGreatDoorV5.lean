/-
  Texts of this proof, one behind the other: Mix, MixE, MixR, SortA, SortP, SortB.
-/
import Derived.Test.YtbabjlohkniciaaGreatDoorV4
import Derived.OrdersHeld
set_option maxHeartbeats 16000000
set_option maxRecDepth 100000
set_option linter.unusedVariables false
set_option linter.unusedSimpArgs false
namespace Go.Proofs.YtbabjlohkniciaaGreatDoor.lib
open Go
def okKind:Op→Bool
 | .move _ | .assign _ | .pick .. | .load .. | .nilCheck _ | .binOp .. | .unOp .. | .convert .. | .slice .. | .fieldAddr .. | .field .. | .indexAddr .. | .index .. | .extract .. | .makeInterface ..=>true
 | .call { callee:=.builtin .len,.. } | .call { callee:=.builtin .cap,.. } | .call { callee:=.builtin .min,.. } | .call { callee:=.builtin .max,.. }=>true
 | _=>false
theorem qmj {P:Program} {w w':World} {s:Sem Value} {f:FuncId} {args:Array Value}:(do pure (Next.value (<-s)):Sem Next).run P w≠.ok (.enter f args) w':=by
 intro h;rw[qus]at h;cases hr:s.run P w with
 | ok v u=>rw[hr]at h;simp[Result.andThen]at h
 | halt x u=>rw[hr]at h;simp[Result.andThen]at h
theorem qo5 {P:Program} {w w':World} {ρ:Operand→Value} {o:Oper} {f:FuncId} {args:Array Value} (h:okKind o.op=true):(execOp ρ o).run P w≠.ok (.enter f args) w':=by
 obtain⟨dst,op,ty,pos,after,guard⟩:=o;cases op<;>simp only[okKind,Bool.false_eq_true]at h<;>try (exact qmj)
 case move=>simp[execOp]
 case assign=>simp[execOp]
 case pick c a b=>
  intro h;simp only[execOp,qus]at h;cases hr:(asBool (ρ c)).run P w with
  | ok v u=>rw[hr]at h;simp[Result.andThen]at h
  | halt x u=>rw[hr]at h;simp[Result.andThen]at h
 case nilCheck x=>
  intro h;simp only[execOp]at h;split at h
  ·simp[runtimePanic,goPanic]at h
  ·simp[runtimePanic,goPanic]at h
  ·simp[runtimePanic,goPanic]at h
  ·split at h
   ·simp[runtimePanic,goPanic]at h
   ·simp[unsupported,Result.andThen]at h;split at h
    ·split at h<;>simp at h
    ·simp at h
   ·simp at h
  ·simp at h
 case call c=>
  obtain⟨callee,args,ts⟩:=c;cases callee with
  | value f=>simp[okKind]at h
  | invoke r m=>simp[okKind]at h
  | builtin b=>cases b<;>simp[okKind]at h<;>(simp only[execOp,resolve,pure_bind,invoke,builtin];exact qmj)
theorem qez {P:Program} {o:Oper} {a:Act} {C:World→Prop} {w:World} {v:Value} (hk:okKind o.op=true) (h:o.quietAt P a C w v) :
  (execOp a.eval o).run P w = .ok (.value v) w∨((execOp a.eval o).run P w = .ok .skip w∧v=undef):=by
 unfold Oper.quietAt at h;generalize hr:(execOp a.eval o).run P w=r at h;cases r with
 | ok n w'=>
  cases n<;>simp only[Oper.quietUpon]at h;case value u=>left;rw[h.1,h.2]
  case skip=>right;rw[h.1];exact⟨rfl,h.2⟩
  case enter f args=>exact absurd hr (qo5 hk)
 | halt x w'=>simp only[Oper.quietUpon]at h
open Classical in
noncomputable def sup (S:List Nat) (w x:World):World:=if Fr S w x then x else w
theorem qes (S:List Nat) (w x:World):Fr S w (sup S w x):=by
 unfold sup;split
 ·assumption
 ·exact Fr.refl _ _
theorem qy5 {S:List Nat} {w x:World} (h:Fr S w x):sup S w x=x:=by unfold sup;rw[if_pos h]
@[go_sem] def Sup (S:List Nat) (w:World):World→Prop:=λu=>∃x,u=sup S w x
theorem Sup.of {S:List Nat} {w u:World} (h:Fr S w u):Sup S w u:=⟨u,(qy5 h).symm⟩
theorem Sup.fr {S:List Nat} {w u:World} (h:Sup S w u):Fr S w u:=by obtain⟨x,rfl⟩:=h;exact qes S w x
theorem Sup.sub {S:List Nat} {w w':World} (h:Fr S w w'):∀u,Sup S w' u→Sup S w u:=λu hu=>Sup.of (h.trans hu.fr)
@[go_sem] theorem zdy {S:List Nat} {w x:World} {a:Addr} (h:(w.cell? a).isSome=true) (hn:a.block∉S):(sup S w x).cell? a=w.cell? a:=by obtain⟨v,hv⟩:=Option.isSome_iff_exists.1 h;rw[hv,(qes S w x).cell hv hn]
section
variable {P : Program} {ops : Array Oper} {Q : Exit → Act → World → Prop} {md : Region.Mode}
def QY (P:Program) (ops:Array Oper) (C:World→Prop) (o:Oper) (v:Value) (a:Act):Prop:=
 (Region.wanted o (yielded ops a.tmps)=true∧∀w,C w→(execOp a.eval o).run P w = .ok (.value v) w∨((execOp a.eval o).run P w = .ok .skip w∧v=undef))∨
 (Region.wanted o (yielded ops a.tmps)=false∧v=undef)
theorem QY.of_same {C:World→Prop} {o:Oper} {v:Value} {a a':Act} (hy:QY P ops C o v a) (he:execOp a'.eval o=execOp a.eval o)
  (hw:Region.wanted o (yielded ops a'.tmps)=Region.wanted o (yielded ops a.tmps)):QY P ops C o v a':=by
 unfold QY at *;rw[he,hw];exact hy
theorem QY.op {C:World→Prop} {i:Nat} {o:Oper} {v:Value} {a:Act} (hi:ops[i]?=some o) (hy:QY P ops C o v a) {K:Act→World→Prop} {w:World} (hC:C w) (h:K (a.put o.dst v) w):wpOp P ops Q i K a w:=by
 unfold wpOp;simp only[hi];rcases hy with⟨hw,hv⟩|⟨hw,rfl⟩
 ·rcases hv w hC with hr|⟨hr,rfl⟩
  ·simp only[hw,if_true,Oper.wp,hr,Oper.upon];exact .inl h
  ·simp only[hw,if_true,Oper.wp,hr,Oper.upon];exact .inl h
 ·simp only[hw,Bool.false_eq_true,if_false];exact h
theorem qoy {C:World→Prop} {j:Nat} {oi oj:Oper} {v:Value} (hj:ops[j]?=some oj) (hap:oi.apart ops oj=true)
  (hsi:∀cs b,oi.op≠.select cs b) (hsj:∀cs b,oj.op≠.select cs b)
  (hQ:∀c a d v w,Q (.panic c) (Act.put a d v) w→Q (.panic c) a w) {K:Act→World→Prop} {a:Act} {w:World}
  (hy:QY P ops C oi v a) (h:wpOp P ops Q j K (a.put oi.dst v) w) :
  wpOp P ops Q j (λa' w'=>QY P ops C oi v a'∧K (a'.put oi.dst v) w') a w:=by
 obtain⟨h1,h2,h3⟩:=Oper.apart_spec hap;have keep:∀(a:Act),QY P ops C oi v a→∀u,QY P ops C oi v (a.put oj.dst u):=λa hy u=>hy.of_same (execOp_put oi hsi a oj.dst u h3) (wanted_put oi a oj.dst u h3)
 have keepD:∀d,QY P ops C oi v { a with defers:=d::a.defers }:=λd=>hy.of_same rfl rfl
 unfold wpOp at *;simp only[hj]at *;rw[wanted_put oj a oi.dst v h1]at h;by_cases hw:Region.wanted oj (yielded ops a.tmps)=true
 ·simp only[hw,if_true]at h ⊢;rcases h with h|⟨hasks,hlets⟩
  ·left;unfold Oper.wp at *;rw[execOp_put oj hsj a oi.dst v h1]at h;generalize (execOp a.eval oj).run P w=r at *;cases r with
   | ok n w'=>
    cases n<;>simp only[Oper.upon]at h ⊢;case value u=>exact⟨keep a hy u,by rw[<-Act.put_comm a v u h2];exact h⟩
    case skip=>exact⟨keep a hy _,by rw[<-Act.put_comm a v undef h2];exact h⟩
    case defer d=>refine⟨keep _ (keepD d) _,?_⟩;rw[<-Act.put_comm _ v undef h2,<-Act.put_defers];exact h
    case enter f args=>
     refine Calls.mono h λe w'' he=>?_
     cases e with
     | returned u=>exact⟨keep a hy u,by rw[<-Act.put_comm a v u h2];exact he⟩
     | panicked c=>exact hQ _ _ _ _ _ he
     | outgrown=>exact he
    case row row args=>exact Rows.mono h λu w'' he=>⟨keep a hy u,by rw[<-Act.put_comm a v u h2];exact he⟩
   | halt x w'=>cases x<;>simp only[Oper.upon]at h ⊢;case panic u=>exact hQ _ _ _ _ _ h
  ·right;refine⟨?_,hlets⟩;unfold Oper.asks at *;rw[execOp_put oj hsj a oi.dst v h1]at hasks;exact hasks
 ·simp only[hw]at h ⊢;exact⟨keep a hy _,by rw[<-Act.put_comm a v undef h2];exact h⟩
def wpMx (P:Program) (md:Region.Mode) (ops:Array Oper) (Q:Exit→Act→World→Prop) (n:Nat) (C:World→Prop):Nat→Array Bool→Act→World→Prop
 | 0,listed,a,w=>Region.ready md ops listed=[]∧Q .normal a w
 | f+1,listed,a,w=>(Region.ready md ops listed=[]→Q .normal a w)∧
  ∀i∈Region.ready md ops listed,wpOp P ops Q i (λa' w'=>(i<n→C w')∧wpMx P md ops Q n C f (listed.setIfInBounds i true) a' w') a w
theorem qj4 {n:Nat} {C C':World→Prop} (hC:∀u,C' u→C u):∀(f:Nat) (listed:Array Bool) (a:Act) (w:World),wpMx P md ops Q n C' f listed a w→wpMx P md ops Q n C f listed a w
 | 0,_,_,_,h=>h
 | f+1,_,_,_,h=>⟨h.1,λi hi=>wpOp_mono (λa' w' h'=>⟨λhn=>hC _ (h'.1 hn),qj4 hC f _ a' w' h'.2⟩) (h.2 i hi)⟩
theorem qhl {n:Nat} {C:World→Prop}:∀(f:Nat) (listed:Array Bool) (a:Act) (w:World),wpMx P md ops Q n C f listed a w→wpAny P md ops Q f listed a w
 | 0,_,_,_,h=>h
 | f+1,_,_,_,h=>⟨h.1,λi hi=>wpOp_mono (λa' w' h'=>qhl f _ a' w' h'.2) (h.2 i hi)⟩
theorem qg0 {n i:Nat} {oi:Oper} {v:Value} {C:World→Prop} (hi:ops[i]?=some oi) (hsel:∀(j:Nat) (o:Oper) cs b,ops[j]?=some o→o.op≠.select cs b)
  (hQ:∀c a d v w,Q (.panic c) (Act.put a d v) w→Q (.panic c) a w) (hin:i<n)
  (hT:∀listed,HeadInv md ops n listed→listed.getD i true=false→∀t,n≤t→t∉Region.ready md ops listed) :
  ∀(f:Nat) (listed:Array Bool) (a:Act) (w:World),HeadInv md ops n listed→
   (∀j oj,ops[j]?=some oj→j≠i→listed.getD j true=false→(∀e∈oj.after,Region.binds md e=true→e.on≠i)→oi.apart ops oj=true)→
   i∈Region.ready md ops listed→QY P ops C oi v a→C w→
   wpMx P md ops Q n C f (listed.setIfInBounds i true) (a.put oi.dst v) w→wpMx P md ops Q n C (f+1) listed a w:=by
 intro f;induction f with
 | zero=>
  intro listed a w inv _ hr hy hC H;refine⟨λh=>(by rw[h]at hr;cases hr),λj hj=>?_⟩;by_cases hji:j=i
  ·subst hji;exact hy.op hi hC ⟨λ_=>hC,H⟩
  ·have:=ready_mono hj hji;rw[H.1]at this;cases this
 | succ f ih=>
  intro listed a w inv hfree hr hy hC H;have hun:=(mem_ready.1 hr).1;refine⟨λh=>(by rw[h]at hr;cases hr),λj hj=>?_⟩;by_cases hji:j=i
  ·subst hji;exact hy.op hi hC ⟨λ_=>hC,H⟩
  ·have hjn:j<n:=by
    rcases qbq j n with h|h
    ·exact h
    ·exact absurd hj (hT listed inv hun j h)
   have h1:=H.2 j (ready_mono hj hji);obtain⟨hjun,oj,hoj,hall⟩:=mem_ready.1 hj;have hnot:∀e∈oj.after,Region.binds md e=true→e.on≠i:=λe he hb heq=>by have h1:=hall e he hb;rw[heq,getD_both hun]at h1;cases h1
   have h2:=qoy hoj (hfree j oj hoj hji hjun hnot) (λcs b=>hsel i oi cs b hi) (λcs b=>hsel j oj cs b hoj) hQ hy h1;have hfree':∀k ok,ops[k]?=some ok→k≠i→(listed.setIfInBounds j true).getD k true=false→
     (∀e∈ok.after,Region.binds md e=true→e.on≠i)→oi.apart ops ok=true:=λk ok hk hki hkun hno=>by
    refine hfree k ok hk hki ?_ hno
    by_cases hjk:j=k
    ·subst hjk;exact hjun
    ·rw[getD_set_ne true hjk]at hkun;exact hkun
   refine wpOp_mono (λa' w' h3=>⟨h3.2.1,?_⟩) h2;refine ih (listed.setIfInBounds j true) a' w' (inv.set hj hjn) hfree' (ready_mono hr (qgh hji)) h3.1 (h3.2.1 hjn) ?_;rw[Array.setIfInBounds_comm _ _ hji];exact h3.2.2
theorem qhk {n:Nat} {C:World→Prop}:∀(l:List Oper) (k:Nat) (listed:Array Bool) (a:Act) (w:World),n≤k→(∀j,l[j]?=ops[k+j]?)→
  Region.seqB md ops l.length k listed=true→wpList P ops Q l a w→wpMx P md ops Q n C l.length listed a w
 | [],_,_,_,_,_,_,hB,h=>⟨by simpa[Region.seqB] using hB,h⟩
 | o::l,k,listed,a,w,hk,hl,hB,h=>by
  have h0:ops[k]?=some o:=by simpa using (hl 0).symm
  simp only[qam,Region.seqB,qbf,decide_eq_true_eq]at hB;refine⟨λh1=>(by rw[hB.1]at h1;cases h1),λi hi=>?_⟩;rw[hB.1]at hi;have hik:i=k:=by simpa using hi
  subst hik;have hw:wpOp P ops Q i (wpList P ops Q l) a w:=by unfold wpOp;simp only[h0];exact h
  exact wpOp_mono (λa' w' h'=>⟨λhlt=>by omega,qhk l (i+1) _ a' w' (by omega) (λj=>by have:=hl (j+1);simpa[qcu,qil 1 j] using this) hB.2 h'⟩) hw
def mixQ (P:Program) (ops:Array Oper) (S:List Nat) (Q:Exit→Act→World→Prop) (tail:List Oper):List (Bool×Oper)→Act→World→Prop
 | [],a,w=>wpList P ops Q tail a w
 | (false,o)::rest,a,w=>if Region.wanted o (yielded ops a.tmps) then o.quiet P a (Sup S w) (λa'=>mixQ P ops S Q tail rest a' w) else mixQ P ops S Q tail rest (a.put o.dst undef) w
 | (true,o)::rest,a,w=>if Region.wanted o (yielded ops a.tmps) then o.wp P a w (λa' w'=>Fr S w w'∧mixQ P ops S Q tail rest a' w') Q else mixQ P ops S Q tail rest (a.put o.dst undef) w
def mixB (md:Region.Mode) (ops:Array Oper) (n:Nat):List (Bool×Nat)→Array Bool→Bool
 | [],listed=>Region.seqB md ops (ops.size-n) n listed
 | (e,i)::rest,listed=>decide (i<n)&&(match e with
   | true=>decide (Region.ready md ops listed=[i])
   | false=>(Region.ready md ops listed).contains i&&Region.free md ops listed i&&(match ops[i]? with|some o=>okKind o.op|none=>false))&&mixB md ops n rest (listed.setIfInBounds i true)
def mixAll (md:Region.Mode) (ops:Array Oper) (n:Nat) (order:List (Bool×Nat)):Bool:=
 Region.noSelect ops&&(decide (n=ops.size)||(decide (n<ops.size)&&Region.sinkB md ops n&&Region.chainB md ops n))&&decide (order.length+(ops.size-n)=ops.size)&&mixB md ops n order (Array.replicate ops.size false)
theorem qk5 {n:Nat} {S:List Nat} {l:List Oper} (hl:ops=l.toArray) (hsel:Region.noSelect ops=true) (hQ:∀c a d v w,Q (.panic c) (Act.put a d v) w→Q (.panic c) a w)
  (hT:∀i,i<n→∀listed,HeadInv md ops n listed→listed.getD i true=false→∀t,n≤t→t∉Region.ready md ops listed) :
  ∀(order:List (Bool×Nat)) (listed:Array Bool) (a:Act) (w:World),HeadInv md ops n listed→mixB md ops n order listed=true→
   mixQ P ops S Q (l.drop n) (order.map λx=>(x.1,l.getD x.2 default)) a w→wpMx P md ops Q n (Sup S w) (order.length+(ops.size-n)) listed a w
 | [],listed,a,w,_,hB,h=>by
  have hlen:(l.drop n).length=ops.size-n:=by rw[hl];simp
  have:=qhk (P:=P) (Q:=Q) (md:=md) (ops:=ops) (n:=n) (C:=Sup S w) (l.drop n) n listed a w (qag _) (λj=>by rw[hl];simp[qjp]) (by rw[hlen];exact hB) h;simpa[hlen] using this
 | (e,i)::rest,listed,a,w,inv,hB,h=>by
  simp only[mixB,qbf,decide_eq_true_eq]at hB;obtain⟨⟨hin,he⟩,hrest⟩:=hB;have hlen:((e,i)::rest).length+(ops.size-n)=rest.length+(ops.size-n)+1:=by simp;omega
  rw[hlen];cases e with
  | false=>
   simp only[qbf]at he;obtain⟨⟨hr,hf⟩,hk⟩:=he;have hr':i∈Region.ready md ops listed:=by simpa using hr
   obtain⟨_,oi,hoi,_⟩:=mem_ready.1 hr';rw[hoi]at hk;have hd:l.getD i default=oi:=by rw[hl]at hoi;simp at hoi;simp[List.getD,hoi]
   simp only[qak,hd,mixQ]at h;have hC:Sup S w w:=Sup.of (Fr.refl _ _);by_cases hw:Region.wanted oi (yielded ops a.tmps)=true
   ·rw[if_pos hw]at h;obtain⟨v,h1,h2⟩:=h;have hy:QY P ops (Sup S w) oi v a:=.inl ⟨hw,λu hu=>qez hk (h1 u hu)⟩;exact qg0 hoi (qeb hsel) hQ hin (hT i hin) _ listed a w inv (qgf hoi hf) hr' hy hC (qk5 hl hsel hQ hT rest _ _ w (inv.set hr' hin) hrest h2)
   ·rw[if_neg hw]at h;have hy:QY P ops (Sup S w) oi undef a:=.inr ⟨by simpa using hw,rfl⟩;exact qg0 hoi (qeb hsel) hQ hin (hT i hin) _ listed a w inv (qgf hoi hf) hr' hy hC (qk5 hl hsel hQ hT rest _ _ w (inv.set hr' hin) hrest h)
  | true=>
   simp only[decide_eq_true_eq]at he;have hr':i∈Region.ready md ops listed:=by rw[he];simp
   obtain⟨_,oi,hoi,_⟩:=mem_ready.1 hr';have hd:l.getD i default=oi:=by rw[hl]at hoi;simp at hoi;simp[List.getD,hoi]
   simp only[qak,hd,mixQ]at h;refine⟨λh0=>(by rw[h0]at hr';cases hr'),λj hj=>?_⟩;rw[he]at hj;have hji:j=i:=by simpa using hj
   subst hji;unfold wpOp;simp only[hoi];by_cases hw:Region.wanted oi (yielded ops a.tmps)=true
   ·rw[if_pos hw]at h;rw[if_pos hw];left;exact Oper.wp_mono (λa' w' h'=>⟨λ_=>Sup.of h'.1,qj4 (Sup.sub h'.1) _ _ _ _ (qk5 hl hsel hQ hT rest _ a' w' (inv.set hr' hin) hrest h'.2)⟩) h
   ·rw[if_neg hw]at h;rw[if_neg hw];exact⟨λ_=>Sup.of (Fr.refl _ _),qk5 hl hsel hQ hT rest _ _ w (inv.set hr' hin) hrest h⟩
theorem qcj {id:Nat} {a:Act} {w:World} {l:List Oper} (n:Nat) (order:List (Bool×Nat)) (S:List Nat) (hm:P.follows .mixedOrders=true) (hB:mixAll .any l.toArray n order=true)
  (hQ:∀c a d v w,Q (.panic c) (Act.put a d v) w→Q (.panic c) a w)
  (h:mixQ P l.toArray S Q (l.drop n) (order.map λx=>(x.1,l.getD x.2 default)) a w.drew):(Code.region id l.toArray true).wp P Q a w:=by
 simp only[mixAll,qbf,decide_eq_true_eq,Bool.or_eq_true]at hB;obtain⟨⟨⟨hsel,hn⟩,hlen⟩,hmix⟩:=hB;have inv0:HeadInv .any l.toArray n (Array.replicate l.toArray.size false):=
  ⟨by simp,λj oj _ hl=>(by rw[getD_replicate_false]at hl;cases hl),λt _ ht=>getD_in (by simpa using ht) (getD_replicate_false _ _)⟩
 have hT:∀i,i<n→∀listed,HeadInv .any l.toArray n listed→listed.getD i true=false→∀t,n≤t→t∉Region.ready .any l.toArray listed:=by
  intro i hi listed inv hun t ht hr;rcases hn with hn|⟨⟨hn,hs⟩,hc⟩
  ·obtain⟨_,o,ho,_⟩:=mem_ready.1 hr;have:=(Array.getElem?_eq_some_iff.1 ho).1;omega
  ·exact tail_waits hs hc hn inv _ i rfl hi hun t ht hr
 refine wp_region_any hm (qhl (n:=n) (C:=Sup S w.drew) _ _ _ _ ?_);have:=qk5 (P:=P) (Q:=Q) (md:=.any) (n:=n) (S:=S) rfl hsel hQ hT order _ a w.drew inv0 hmix h;rw[hlen]at this;exact this
theorem qb9 {S:List Nat} {tail:List Oper} {items:List (Bool×Oper)} {a:Act} {w:World} (k:Nat) (h0:((items.take k).all λx=>!x.1)=true)
  (h:wpQuiet P ops (Sup S w) (λa'=>mixQ P ops S Q tail (items.drop k) a' w) ((items.take k).map (·.2)) a):mixQ P ops S Q tail items a w:=by
 induction k generalizing items a with
 | zero=>exact h
 | succ k ih=>
  cases items with
  | nil=>exact h
  | cons x rest=>
   obtain⟨b,o⟩:=x;simp only[qai,qrp,qbf,Bool.not_eq_true']at h0;obtain⟨rfl,h0⟩:=h0;simp only[qai,qak,qah,wpQuiet]at h;unfold mixQ;by_cases hw:Region.wanted o (yielded ops a.tmps)=true
   ·rw[if_pos hw]at h ⊢;obtain⟨v,h1,h2⟩:=h;exact⟨v,h1,ih h0 h2⟩
   ·rw[if_neg hw]at h ⊢;exact ih h0 h
theorem qc5 {S:List Nat} {tail:List Oper} {rest:List (Bool×Oper)} {o:Oper} {a:Act} {w:World} (hw:Region.wanted o (yielded ops a.tmps)=true)
  (h:∀K:Act→World→Prop,Go.RowKit.Hid (∀a' w',Fr S w w'→mixQ P ops S Q tail rest a' w'→K a' w')→o.wp P a w K Q):mixQ P ops S Q tail ((true,o)::rest) a w:=by
 unfold mixQ;rw[if_pos hw];exact h _ λ_ _ h1 h2=>⟨h1,h2⟩
theorem qwf {S:List Nat} {tail:List Oper} {rest:List (Bool×Oper)} {o:Oper} {a:Act} {w:World} (hw:Region.wanted o (yielded ops a.tmps)=false)
  (h:mixQ P ops S Q tail rest (a.put o.dst undef) w):mixQ P ops S Q tail ((true,o)::rest) a w:=by
 unfold mixQ;rw[if_neg (by rw[hw];exact Bool.false_ne_true)];exact h
theorem qc4 {S:List Nat} {tail:List Oper} {a:Act} {w:World} (h:wpList P ops Q tail a w):mixQ P ops S Q tail [] a w:=h
end
theorem qgm {P:Program} (S:List Nat) (w:World) {src dst e:TypeId} (hs:P.underlying src=some (.slice e)) (he:P.underlying e=some (.int .u8)) (hd:P.underlying dst=some .string)
  {ao:Option Addr} {n:Nat} {bs:List UInt8} (hn:bs.length=n) (hcs:Cs w ao (bs.map bv)) (hb:∀x∈blk ao,x∉S) :
  ∀x cap,(convert src dst (.slice ao n cap)).run P (sup S w x) = .ok (.string (str bs)) (sup S w x):=
 λx cap=>qer (sup S w x) hs he hd hn (hcs.fr (qes S w x) hb) cap
end Go.Proofs.YtbabjlohkniciaaGreatDoor.lib
namespace Go.Proofs.YtbabjlohkniciaaGreatDoor.lib
open Go
section
variable {P : Program} {ops : Array Oper} {Q : Exit → Act → World → Prop} {md : Region.Mode}
def wpMe (P:Program) (md:Region.Mode) (ops:Array Oper) (Q:Exit→Act→World→Prop) (D:Nat→World→World→Prop):Nat→Array Bool→Act→World→Prop
 | 0,listed,a,w=>Region.ready md ops listed=[]∧Q .normal a w
 | f+1,listed,a,w=>(Region.ready md ops listed=[]→Q .normal a w)∧
  ∀i∈Region.ready md ops listed,wpOp P ops Q i (λa' w'=>D i w w'∧wpMe P md ops Q D f (listed.setIfInBounds i true) a' w') a w
theorem qj6 {D:Nat→World→World→Prop}:∀(f:Nat) (listed:Array Bool) (a:Act) (w:World),wpMe P md ops Q D f listed a w→wpAny P md ops Q f listed a w
 | 0,_,_,_,h=>h
 | f+1,_,_,_,h=>⟨h.1,λi hi=>wpOp_mono (λa' w' h'=>qj6 f _ a' w' h'.2) (h.2 i hi)⟩
theorem qg1 {i:Nat} {oi:Oper} {v:Value} {C:World→Prop} {D:Nat→World→World→Prop} (hi:ops[i]?=some oi) (hsel:∀(j:Nat) (o:Oper) cs b,ops[j]?=some o→o.op≠.select cs b)
  (hQ:∀c a d v w,Q (.panic c) (Act.put a d v) w→Q (.panic c) a w) (hDi:∀w,D i w w)
  (hT:∀listed,listed.getD i true=false→∀t∈Region.ready md ops listed,t≠i→∀w w',C w→D t w w'→C w') :
  ∀(f:Nat) (listed:Array Bool) (a:Act) (w:World),
   (∀j oj,ops[j]?=some oj→j≠i→listed.getD j true=false→(∀e∈oj.after,Region.binds md e=true→e.on≠i)→oi.apart ops oj=true)→
   i∈Region.ready md ops listed→QY P ops C oi v a→C w→
   wpMe P md ops Q D f (listed.setIfInBounds i true) (a.put oi.dst v) w→wpMe P md ops Q D (f+1) listed a w:=by
 intro f;induction f with
 | zero=>
  intro listed a w _ hr hy hC H;refine⟨λh=>(by rw[h]at hr;cases hr),λj hj=>?_⟩;by_cases hji:j=i
  ·subst hji;exact hy.op hi hC ⟨hDi w,H⟩
  ·have:=ready_mono hj hji;rw[H.1]at this;cases this
 | succ f ih=>
  intro listed a w hfree hr hy hC H;have hun:=(mem_ready.1 hr).1;refine⟨λh=>(by rw[h]at hr;cases hr),λj hj=>?_⟩;by_cases hji:j=i
  ·subst hji;exact hy.op hi hC ⟨hDi w,H⟩
  ·have h1:=H.2 j (ready_mono hj hji);obtain⟨hjun,oj,hoj,hall⟩:=mem_ready.1 hj;have hnot:∀e∈oj.after,Region.binds md e=true→e.on≠i:=λe he hb heq=>by have h1:=hall e he hb;rw[heq,getD_both hun]at h1;cases h1
   have h2:=qoy hoj (hfree j oj hoj hji hjun hnot) (λcs b=>hsel i oi cs b hi) (λcs b=>hsel j oj cs b hoj) hQ hy h1;have hfree':∀k ok,ops[k]?=some ok→k≠i→(listed.setIfInBounds j true).getD k true=false→
     (∀e∈ok.after,Region.binds md e=true→e.on≠i)→oi.apart ops ok=true:=λk ok hk hki hkun hno=>by
    refine hfree k ok hk hki ?_ hno
    by_cases hjk:j=k
    ·subst hjk;exact hjun
    ·rw[getD_set_ne true hjk]at hkun;exact hkun
   refine wpOp_mono (λa' w' h3=>⟨h3.2.1,?_⟩) h2;refine ih (listed.setIfInBounds j true) a' w' hfree' (ready_mono hr (qgh hji)) h3.1 (hT listed hun j hj hji w w' hC h3.2.1) ?_;rw[Array.setIfInBounds_comm _ _ hji];exact h3.2.2
def DE (S:List Nat) (lates:List Nat) (j:Nat) (w w':World):Prop:=if lates.contains j=true then Fr S w w' else w'=w
def mixE (P:Program) (ops:Array Oper) (S:List Nat) (Q:Exit→Act→World→Prop):List (Nat×Oper)→Act→World→Prop
 | [],a,w=>Q .normal a w
 | (0,o)::rest,a,w=>if Region.wanted o (yielded ops a.tmps) then o.quiet P a (Sup S w) (λa'=>mixE P ops S Q rest a' w) else mixE P ops S Q rest (a.put o.dst undef) w
 | (1,o)::rest,a,w=>if Region.wanted o (yielded ops a.tmps) then o.quiet P a (λu=>u=w) (λa'=>mixE P ops S Q rest a' w) else mixE P ops S Q rest (a.put o.dst undef) w
 | (_+2,o)::rest,a,w=>if Region.wanted o (yielded ops a.tmps) then o.wp P a w (λa' w'=>Fr S w w'∧mixE P ops S Q rest a' w') Q else mixE P ops S Q rest (a.put o.dst undef) w
def waitsFor (md:Region.Mode) (ops:Array Oper) (t i:Nat):Bool:=match ops[t]? with
 | some o=>o.after.toList.any λe=>Region.binds md e&&decide (e.on=i)
 | none=>true
def quietB (md:Region.Mode) (ops:Array Oper) (lates:List Nat) (i:Nat) (listed:Array Bool):Bool:=
 (Region.ready md ops listed).contains i&&Region.free md ops listed i&&(match ops[i]? with|some o=>okKind o.op|none=>false)&&!lates.contains i
def mixEB (md:Region.Mode) (ops:Array Oper) (lates:List Nat):List (Nat×Nat)→Array Bool→Bool
 | [],listed=>decide (Region.ready md ops listed=[])
 | (0,i)::rest,listed=>quietB md ops lates i listed&&mixEB md ops lates rest (listed.setIfInBounds i true)
 | (1,i)::rest,listed=>quietB md ops lates i listed&&lates.all (λt=>waitsFor md ops t i)&&mixEB md ops lates rest (listed.setIfInBounds i true)
 | (_+2,i)::rest,listed=>decide (Region.ready md ops listed=[i])&&lates.contains i&&mixEB md ops lates rest (listed.setIfInBounds i true)
theorem qt6 {i t:Nat} {listed:Array Bool} (h:waitsFor md ops t i=true) (hun:listed.getD i true=false) (ht:t∈Region.ready md ops listed):False:=by obtain⟨_,o,ho,hall⟩:=mem_ready.1 ht;simp only[waitsFor,ho,List.any_eq_true,qbf,decide_eq_true_eq]at h;obtain⟨e,he,hb,heq⟩:=h;have h1:=hall e (by simpa using he) hb;rw[heq,getD_both hun]at h1;cases h1
theorem zd2 {S lates:List Nat} {b:World} {t:Nat} {w w':World} (hC:Sup S b w) (h:DE S lates t w w'):Sup S b w':=by
 unfold DE at h;split at h
 ·exact Sup.of (hC.fr.trans h)
 ·rw[h];exact hC
theorem qhq {S lates:List Nat} {l:List Oper} (hl:ops=l.toArray) (hsel:Region.noSelect ops=true) (hQ:∀c a d v w,Q (.panic c) (Act.put a d v) w→Q (.panic c) a w) :
  ∀(order:List (Nat×Nat)) (listed:Array Bool) (a:Act) (w:World),mixEB md ops lates order listed=true→
   mixE P ops S Q (order.map λx=>(x.1,l.getD x.2 default)) a w→wpMe P md ops Q (DE S lates) order.length listed a w
 | [],listed,a,w,hB,h=>by
  simp only[mixEB,decide_eq_true_eq]at hB;exact⟨hB,h⟩
 | (0,i)::rest,listed,a,w,hB,h=>by
  simp only[mixEB,quietB,qbf,Bool.not_eq_true']at hB;obtain⟨⟨⟨⟨hr,hf⟩,hk⟩,hlt⟩,hrest⟩:=hB;have hr':i∈Region.ready md ops listed:=by simpa using hr
  obtain⟨_,oi,hoi,_⟩:=mem_ready.1 hr';rw[hoi]at hk;have hd:l.getD i default=oi:=by rw[hl]at hoi;simp at hoi;simp[List.getD,hoi]
  simp only[qak,hd,mixE]at h;have hC:Sup S w w:=Sup.of (Fr.refl _ _);have hDi:∀w,DE S lates i w w:=λw=>by unfold DE;split;exact Fr.refl _ _;rfl
  have hT:∀listed:Array Bool,listed.getD i true=false→∀t∈Region.ready md ops listed,t≠i→∀w1 w',Sup S w w1→DE S lates t w1 w'→Sup S w w':=λ_ _ t _ _ w1 w' h1 h2=>zd2 h1 h2
  by_cases hw:Region.wanted oi (yielded ops a.tmps)=true
  ·rw[if_pos hw]at h;obtain⟨v,h1,h2⟩:=h;have hy:QY P ops (Sup S w) oi v a:=.inl ⟨hw,λu hu=>qez hk (h1 u hu)⟩;exact qg1 hoi (qeb hsel) hQ hDi hT _ listed a w (qgf hoi hf) hr' hy hC (qhq hl hsel hQ rest _ _ w hrest h2)
  ·rw[if_neg hw]at h;have hy:QY P ops (Sup S w) oi undef a:=.inr ⟨by simpa using hw,rfl⟩;exact qg1 hoi (qeb hsel) hQ hDi hT _ listed a w (qgf hoi hf) hr' hy hC (qhq hl hsel hQ rest _ _ w hrest h)
 | (1,i)::rest,listed,a,w,hB,h=>by
  simp only[mixEB,quietB,qbf,Bool.not_eq_true']at hB;obtain⟨⟨⟨⟨⟨hr,hf⟩,hk⟩,hlt⟩,hwait⟩,hrest⟩:=hB;have hr':i∈Region.ready md ops listed:=by simpa using hr
  obtain⟨_,oi,hoi,_⟩:=mem_ready.1 hr';rw[hoi]at hk;have hd:l.getD i default=oi:=by rw[hl]at hoi;simp at hoi;simp[List.getD,hoi]
  simp only[qak,hd,mixE]at h;have hDi:∀w,DE S lates i w w:=λw=>by unfold DE;split;exact Fr.refl _ _;rfl
  have hT:∀listed:Array Bool,listed.getD i true=false→∀t∈Region.ready md ops listed,t≠i→∀w1 w',w1=w→DE S lates t w1 w'→w'=w:=λls hun t ht _ w1 w' h1 h2=>by
   unfold DE at h2;split at h2
   ·rename_i hc;exact (qt6 (List.all_eq_true.1 hwait t (by simpa using hc)) hun ht).elim
   ·rw[h2,h1]
  by_cases hw:Region.wanted oi (yielded ops a.tmps)=true
  ·rw[if_pos hw]at h;obtain⟨v,h1,h2⟩:=h;have hy:QY P ops (λu=>u=w) oi v a:=.inl ⟨hw,λu hu=>qez hk (h1 u hu)⟩;exact qg1 hoi (qeb hsel) hQ hDi hT _ listed a w (qgf hoi hf) hr' hy rfl (qhq hl hsel hQ rest _ _ w hrest h2)
  ·rw[if_neg hw]at h;have hy:QY P ops (λu=>u=w) oi undef a:=.inr ⟨by simpa using hw,rfl⟩;exact qg1 hoi (qeb hsel) hQ hDi hT _ listed a w (qgf hoi hf) hr' hy rfl (qhq hl hsel hQ rest _ _ w hrest h)
 | (_+2,i)::rest,listed,a,w,hB,h=>by
  simp only[mixEB,qbf,decide_eq_true_eq]at hB;obtain⟨⟨he,hlt⟩,hrest⟩:=hB;have hr':i∈Region.ready md ops listed:=by rw[he];simp
  obtain⟨_,oi,hoi,_⟩:=mem_ready.1 hr';have hd:l.getD i default=oi:=by rw[hl]at hoi;simp at hoi;simp[List.getD,hoi]
  simp only[qak,hd,mixE]at h;refine⟨λh0=>(by rw[h0]at hr';cases hr'),λj hj=>?_⟩;rw[he]at hj;have hji:j=i:=by simpa using hj
  subst hji;unfold wpOp;simp only[hoi];by_cases hw:Region.wanted oi (yielded ops a.tmps)=true
  ·rw[if_pos hw]at h;rw[if_pos hw];left;exact Oper.wp_mono (λa' w' h'=>⟨by unfold DE;rw[if_pos hlt];exact h'.1,qhq hl hsel hQ rest _ a' w' hrest h'.2⟩) h
  ·rw[if_neg hw]at h;rw[if_neg hw];exact⟨by unfold DE;rw[if_pos hlt];exact Fr.refl _ _,qhq hl hsel hQ rest _ _ w hrest h⟩
theorem qf7 {id:Nat} {a:Act} {w:World} {l:List Oper} (order:List (Nat×Nat)) (S lates:List Nat) (hm:P.follows .mixedOrders=true)
  (hB:(Region.noSelect l.toArray&&decide (order.length=l.toArray.size)&&mixEB .any l.toArray lates order (Array.replicate l.toArray.size false))=true)
  (hQ:∀c a d v w,Q (.panic c) (Act.put a d v) w→Q (.panic c) a w)
  (h:mixE P l.toArray S Q (order.map λx=>(x.1,l.getD x.2 default)) a w.drew):(Code.region id l.toArray true).wp P Q a w:=by
 simp only[qbf,decide_eq_true_eq]at hB;obtain⟨⟨hsel,hlen⟩,hmix⟩:=hB;refine wp_region_any hm (qj6 (D:=DE S lates) _ _ _ _ ?_);have:=qhq (P:=P) (Q:=Q) (md:=.any) (S:=S) (lates:=lates) rfl hsel hQ order _ a w.drew hmix h;rw[hlen]at this;exact this
theorem qd7 {S:List Nat} {items:List (Nat×Oper)} {a:Act} {w:World} (k:Nat) (h0:((items.take k).all λx=>decide (x.1=1))=true)
  (h:wpQuiet P ops (λu=>u=w) (λa'=>mixE P ops S Q (items.drop k) a' w) ((items.take k).map (·.2)) a):mixE P ops S Q items a w:=by
 induction k generalizing items a with
 | zero=>exact h
 | succ k ih=>
  cases items with
  | nil=>exact h
  | cons x rest=>
   obtain⟨e,o⟩:=x;simp only[qai,qrp,qbf,decide_eq_true_eq]at h0;obtain⟨rfl,h0⟩:=h0;simp only[qai,qak,qah,wpQuiet]at h;unfold mixE;by_cases hw:Region.wanted o (yielded ops a.tmps)=true
   ·rw[if_pos hw]at h ⊢;obtain⟨v,h1,h2⟩:=h;exact⟨v,h1,ih h0 h2⟩
   ·rw[if_neg hw]at h ⊢;exact ih h0 h
theorem qdc {S:List Nat} {items:List (Nat×Oper)} {a:Act} {w:World} (k:Nat) (h0:((items.take k).all λx=>decide (x.1=0))=true)
  (h:wpQuiet P ops (Sup S w) (λa'=>mixE P ops S Q (items.drop k) a' w) ((items.take k).map (·.2)) a):mixE P ops S Q items a w:=by
 induction k generalizing items a with
 | zero=>exact h
 | succ k ih=>
  cases items with
  | nil=>exact h
  | cons x rest=>
   obtain⟨e,o⟩:=x;simp only[qai,qrp,qbf,decide_eq_true_eq]at h0;obtain⟨rfl,h0⟩:=h0;simp only[qai,qak,qah,wpQuiet]at h;unfold mixE;by_cases hw:Region.wanted o (yielded ops a.tmps)=true
   ·rw[if_pos hw]at h ⊢;obtain⟨v,h1,h2⟩:=h;exact⟨v,h1,ih h0 h2⟩
   ·rw[if_neg hw]at h ⊢;exact ih h0 h
theorem qfg {S:List Nat} {rest:List (Nat×Oper)} {o:Oper} {a:Act} {w:World} (hw:Region.wanted o (yielded ops a.tmps)=true)
  (h:∀K:Act→World→Prop,Go.RowKit.Hid (∀a' w',Fr S w w'→mixE P ops S Q rest a' w'→K a' w')→o.wp P a w K Q):mixE P ops S Q ((2,o)::rest) a w:=by
 unfold mixE;rw[if_pos hw];exact h _ λ_ _ h1 h2=>⟨h1,h2⟩
theorem qjw {S:List Nat} {a:Act} {w:World} (h:Q .normal a w):mixE P ops S Q [] a w:=h
end
end Go.Proofs.YtbabjlohkniciaaGreatDoor.lib
namespace Go.Proofs.YtbabjlohkniciaaGreatDoor.lib
open Go
theorem Fr.from_drew {S:List Nat} {w w':World} (h:Fr S w w'):Fr S w.drew w':=⟨h.os,h.tape,h.output,h.size,h.block⟩
section
variable {P : Program} {ops : Array Oper} {Q : Exit → Act → World → Prop} {md : Region.Mode}
def mixR (P:Program) (ops:Array Oper) (S:List Nat) (Q:Exit→Act→World→Prop) (tail:List Oper):List (Bool×Oper)→World→Act→World→Prop
 | [],_,a,w=>wpList P ops Q tail a w
 | (false,o)::rest,b,a,w=>if Region.wanted o (yielded ops a.tmps) then o.quiet P a (Sup S b) (λa'=>mixR P ops S Q tail rest b a' w) else mixR P ops S Q tail rest b (a.put o.dst undef) w
 | (true,o)::rest,b,a,w=>if Region.wanted o (yielded ops a.tmps) then o.wp P a w (λa' w'=>∃b',Fr S b b'∧Fr S b' w'∧mixR P ops S Q tail rest b' a' w') Q else mixR P ops S Q tail rest b (a.put o.dst undef) w
theorem qh8 {n:Nat} {S:List Nat} {l:List Oper} (hl:ops=l.toArray) (hsel:Region.noSelect ops=true) (hQ:∀c a d v w,Q (.panic c) (Act.put a d v) w→Q (.panic c) a w)
  (hT:∀i,i<n→∀listed,HeadInv md ops n listed→listed.getD i true=false→∀t,n≤t→t∉Region.ready md ops listed) :
  ∀(order:List (Bool×Nat)) (listed:Array Bool) (b:World) (a:Act) (w:World),Fr S b w→HeadInv md ops n listed→mixB md ops n order listed=true→
   mixR P ops S Q (l.drop n) (order.map λx=>(x.1,l.getD x.2 default)) b a w→wpMx P md ops Q n (Sup S b) (order.length+(ops.size-n)) listed a w
 | [],listed,b,a,w,_,_,hB,h=>by
  have hlen:(l.drop n).length=ops.size-n:=by rw[hl];simp
  have:=qhk (P:=P) (Q:=Q) (md:=md) (ops:=ops) (n:=n) (C:=Sup S b) (l.drop n) n listed a w (qag _) (λj=>by rw[hl];simp[qjp]) (by rw[hlen];exact hB) h;simpa[hlen] using this
 | (e,i)::rest,listed,b,a,w,hfr,inv,hB,h=>by
  simp only[mixB,qbf,decide_eq_true_eq]at hB;obtain⟨⟨hin,he⟩,hrest⟩:=hB;have hlen:((e,i)::rest).length+(ops.size-n)=rest.length+(ops.size-n)+1:=by simp;omega
  rw[hlen];have hC:Sup S b w:=Sup.of hfr;cases e with
  | false=>
   simp only[qbf]at he;obtain⟨⟨hr,hf⟩,hk⟩:=he;have hr':i∈Region.ready md ops listed:=by simpa using hr
   obtain⟨_,oi,hoi,_⟩:=mem_ready.1 hr';rw[hoi]at hk;have hd:l.getD i default=oi:=by rw[hl]at hoi;simp at hoi;simp[List.getD,hoi]
   simp only[qak,hd,mixR]at h;by_cases hw:Region.wanted oi (yielded ops a.tmps)=true
   ·rw[if_pos hw]at h;obtain⟨v,h1,h2⟩:=h;have hy:QY P ops (Sup S b) oi v a:=.inl ⟨hw,λu hu=>qez hk (h1 u hu)⟩;exact qg0 hoi (qeb hsel) hQ hin (hT i hin) _ listed a w inv (qgf hoi hf) hr' hy hC (qh8 hl hsel hQ hT rest _ b _ w hfr (inv.set hr' hin) hrest h2)
   ·rw[if_neg hw]at h;have hy:QY P ops (Sup S b) oi undef a:=.inr ⟨by simpa using hw,rfl⟩;exact qg0 hoi (qeb hsel) hQ hin (hT i hin) _ listed a w inv (qgf hoi hf) hr' hy hC (qh8 hl hsel hQ hT rest _ b _ w hfr (inv.set hr' hin) hrest h)
  | true=>
   simp only[decide_eq_true_eq]at he;have hr':i∈Region.ready md ops listed:=by rw[he];simp
   obtain⟨_,oi,hoi,_⟩:=mem_ready.1 hr';have hd:l.getD i default=oi:=by rw[hl]at hoi;simp at hoi;simp[List.getD,hoi]
   simp only[qak,hd,mixR]at h;refine⟨λh0=>(by rw[h0]at hr';cases hr'),λj hj=>?_⟩;rw[he]at hj;have hji:j=i:=by simpa using hj
   subst hji;unfold wpOp;simp only[hoi];by_cases hw:Region.wanted oi (yielded ops a.tmps)=true
   ·rw[if_pos hw]at h;rw[if_pos hw];left;exact Oper.wp_mono (λa' w' h'=>by
     obtain⟨b',g1,g2,h'⟩:=h'
     exact⟨λ_=>Sup.of (g1.trans g2),qj4 (Sup.sub g1) _ _ _ _ (qh8 hl hsel hQ hT rest _ b' a' w' g2 (inv.set hr' hin) hrest h')⟩) h
   ·rw[if_neg hw]at h;rw[if_neg hw];exact⟨λ_=>hC,qh8 hl hsel hQ hT rest _ b _ w hfr (inv.set hr' hin) hrest h⟩
theorem qkt {id:Nat} {a:Act} {w:World} {l:List Oper} (n:Nat) (order:List (Bool×Nat)) (S:List Nat) (hm:P.follows .mixedOrders=true) (hB:mixAll .any l.toArray n order=true)
  (hQ:∀c a d v w,Q (.panic c) (Act.put a d v) w→Q (.panic c) a w)
  (h:mixR P l.toArray S Q (l.drop n) (order.map λx=>(x.1,l.getD x.2 default)) w.drew a w.drew):(Code.region id l.toArray true).wp P Q a w:=by
 simp only[mixAll,qbf,decide_eq_true_eq,Bool.or_eq_true]at hB;obtain⟨⟨⟨hsel,hn⟩,hlen⟩,hmix⟩:=hB;have inv0:HeadInv .any l.toArray n (Array.replicate l.toArray.size false):=
  ⟨by simp,λj oj _ hl=>(by rw[getD_replicate_false]at hl;cases hl),λt _ ht=>getD_in (by simpa using ht) (getD_replicate_false _ _)⟩
 have hT:∀i,i<n→∀listed,HeadInv .any l.toArray n listed→listed.getD i true=false→∀t,n≤t→t∉Region.ready .any l.toArray listed:=by
  intro i hi listed inv hun t ht hr;rcases hn with hn|⟨⟨hn,hs⟩,hc⟩
  ·obtain⟨_,o,ho,_⟩:=mem_ready.1 hr;have:=(Array.getElem?_eq_some_iff.1 ho).1;omega
  ·exact tail_waits hs hc hn inv _ i rfl hi hun t ht hr
 refine wp_region_any hm (qhl (n:=n) (C:=Sup S w.drew) _ _ _ _ ?_);have:=qh8 (P:=P) (Q:=Q) (md:=.any) (n:=n) (S:=S) rfl hsel hQ hT order _ w.drew a w.drew (Fr.refl _ _) inv0 hmix h;rw[hlen]at this;exact this
theorem qju {S:List Nat} {tail:List Oper} {items:List (Bool×Oper)} {b:World} {a:Act} {w:World} (k:Nat) (h0:((items.take k).all λx=>!x.1)=true)
  (h:wpQuiet P ops (Sup S b) (λa'=>mixR P ops S Q tail (items.drop k) b a' w) ((items.take k).map (·.2)) a):mixR P ops S Q tail items b a w:=by
 induction k generalizing items a with
 | zero=>exact h
 | succ k ih=>
  cases items with
  | nil=>exact h
  | cons x rest=>
   obtain⟨e,o⟩:=x;simp only[qai,qrp,qbf,Bool.not_eq_true']at h0;obtain⟨rfl,h0⟩:=h0;simp only[qai,qak,qah,wpQuiet]at h;unfold mixR;by_cases hw:Region.wanted o (yielded ops a.tmps)=true
   ·rw[if_pos hw]at h ⊢;obtain⟨v,h1,h2⟩:=h;exact⟨v,h1,ih h0 h2⟩
   ·rw[if_neg hw]at h ⊢;exact ih h0 h
theorem qjv {S:List Nat} {tail:List Oper} {rest:List (Bool×Oper)} {o:Oper} {b:World} {a:Act} {w:World} (hw:Region.wanted o (yielded ops a.tmps)=true)
  (h:∀K:Act→World→Prop,Go.RowKit.Hid (∀a' w' b',Fr S b b'→Fr S b' w'→mixR P ops S Q tail rest b' a' w'→K a' w')→o.wp P a w K Q):mixR P ops S Q tail ((true,o)::rest) b a w:=by
 unfold mixR;rw[if_pos hw];exact h _ λ_ _ b' h1 h2 h3=>⟨b',h1,h2,h3⟩
theorem qsc {S:List Nat} {tail:List Oper} {b:World} {a:Act} {w:World} (h:wpList P ops Q tail a w):mixR P ops S Q tail [] b a w:=h
end
end Go.Proofs.YtbabjlohkniciaaGreatDoor.lib
namespace Go.Proofs.YtbabjlohkniciaaGreatDoor.huf
open Go Go.RowKit lib bm bl
structure Mc where
 worth:Nat
 ao:Option Addr
 len:Nat
 cap:Nat
def Dw (w:World) (g:Nat) (T:TypeId) (A0:Array Value) (n:Nat) (f:Nat→Mc):Prop:=
 ∃A:Array Value,w.heap[g]?=some (.cells A T (0,0))∧A.size=A0.size∧2*n≤A.size∧(∀j,2*n≤j→A[j]?=A0[j]?)∧
  ∀i,i<n→A[i*2]?=some (.int .i64 ((f i).worth:Nat))∧A[i*2+1]?=some (.slice (f i).ao (f i).len (f i).cap)
def swp (f:Nat→Mc) (x y:Nat):Nat→Mc:=λi=>if i=x then f y else if i=y then f x else f i
def swr (f:Nat→Mc) (a b:Nat):Nat→Nat→Mc
 | 0=>f
 | k+1=>swp (swr f a b k) (b+k) (a+k)
theorem Dw.swap {g:Nat} {T:TypeId} {A0 A:Array Value} {n x y:Nat} {f:Nat→Mc} (w2:World) (pw:Nat) (pa:Option Addr) (pl pc qw:Nat) (qa:Option Addr) (ql qc:Nat)
  (hs:A.size=A0.size) (hn:2*n≤A.size) (ht:∀j,2*n≤j→A[j]?=A0[j]?)
  (hf:∀i,i<n→A[i*2]?=some (.int .i64 ((f i).worth:Nat))∧A[i*2+1]?=some (.slice (f i).ao (f i).len (f i).cap))
  (hx:x<n) (hy:y<n) (hp:(⟨pw,pa,pl,pc⟩:Mc)=f x) (hq:(⟨qw,qa,ql,qc⟩:Mc)=f y)
  (h:w2.heap[g]?=some (.cells ((((A.setIfInBounds (x*2) (.int .i64 qw)).setIfInBounds (x*2+1) (.slice qa ql qc)).setIfInBounds (y*2) (.int .i64 pw)).setIfInBounds (y*2+1) (.slice pa pl pc)) T (0,0))) :
  Dw w2 g T A0 n (swp f y x):=by
 refine⟨_,h,by simp[hs],by simp;exact hn,λj hj=>?_,λi hi=>?_⟩
 ·rw[qac (by omega),qac (by omega),qac (by omega),qac (by omega)];exact ht j hj
 ·unfold swp;by_cases h1:i=y
  ·subst h1;rw[if_pos rfl,<-hp];refine⟨?_,?_⟩
   ·rw[qac (by omega),qaq (by simp;omega)]
   ·rw[qaq (by simp;omega)]
  ·rw[if_neg h1];by_cases h2:i=x
   ·subst h2;rw[if_pos rfl,<-hq];refine⟨?_,?_⟩
    ·rw[qac (by omega),qac (by omega),qac (by omega),qaq (by omega)]
    ·rw[qac (by omega),qac (by omega),qaq (by simp;omega)]
   ·rw[if_neg h2];refine⟨?_,?_⟩
    ·rw[qac (by omega),qac (by omega),qac (by omega),qac (by omega)];exact (hf i hi).1
    ·rw[qac (by omega),qac (by omega),qac (by omega),qac (by omega)];exact (hf i hi).2
theorem qis (g:Nat) (T:TypeId) (A0:Array Value) (L cap n a b:Nat) (f:Nat→Mc) (cmp:Value) (w:World)
  (h:Dw w g T A0 L f) (ha:a+n≤b) (hb:b+n≤L) (hL:L≤100000) :
  Calls Tryz.prog 213 #[.slice (some ⟨g,0,none⟩) L cap,.int .i64 a,.int .i64 b,.int .i64 n,cmp] w λe w'=>e = .returned (.tuple #[])∧Dw w' g T A0 L (swr f a b n)∧Fr [g] w w':=by
 have H:=zhd h;clear h;go_enter Tryz.func213,Tryz.ntmps213;go_wp2;go_loopg [10] n (λk s10 wr=>∃i:Nat,s10 = .int .i64 (i:Nat)∧i+k=n∧Dw wr g T A0 L (swr f a b i)∧Fr [g] w wr);case atStart=>exact⟨0,rfl,by omega,H.out,.refl _ w⟩
 case round=>
  obtain⟨i,rfl,hik,hD,hf⟩:=hrel;by_cases hi:i<n
  ·obtain⟨k,rfl⟩:∃k,gk=k+1:=⟨gk-1,by omega⟩;obtain⟨A,hA,hAs,hAn,hAt,hAf⟩:=hD;obtain⟨x,hx⟩:=zex (a+i);obtain⟨y,hy⟩:=zex (b+i);have X:=hAf x (by omega);have Y:=hAf y (by omega);obtain⟨p,hp⟩:=zex (swr f a b i x);obtain⟨q,hq⟩:=zex (swr f a b i y);rw[<-hp]at X;rw[<-hq]at Y;obtain⟨pw,pa,pl,pc⟩:=p;obtain⟨qw,qa,ql,qc⟩:=q;have d0:=(cell_of hA (x*2)).trans X.1;have d1:=(cell_of hA (x*2+1)).trans X.2;have d2:=(cell_of hA (y*2)).trans Y.1;have d3:=(cell_of hA (y*2+1)).trans Y.2;simp only at d0 d1 d2 d3;have e0:((a:Int)+(i:Int))=(x:Int):=by omega
   have e1:((b:Int)+(i:Int))=(y:Int):=by omega
   have g1:decide ((x:Int)<0)=false:=by simp
   have g2:decide ((L:Int)≤(x:Int))=false:=by simp;omega
   have g3:decide ((y:Int)<0)=false:=by simp
   have g4:decide ((L:Int)≤(y:Int))=false:=by simp;omega
   have hxl:x<L:=by omega
   have hyl:y<L:=by omega
   have HX:=zhd10 hA hAs hAn hAt hAf hf hp hq hx hy;clear hA hAs hAn hAt hAf hf hp hq X Y hx hy;go_upto_region 3 with fail;refine qf7 [(0,0),(0,1),(0,2),(0,3),(0,4),(0,5),(0,6),(0,7),(0,8),(0,9),(0,10),(0,11),(0,12),(1,13),(0,14),(0,15),(0,16),(0,17),(0,18),(1,19),(0,20),(2,21),(0,22),(2,23)] [g] [21,23] (by kernel_rfl) (by kernel_rfl) (λ_ _ d _ _ h=>by cases d<;>exact h) ?_;simp only[qak,qap,qbh,qbi];refine qdc 13 rfl ?_;simp only[qai,qao,qah,qaj,qak,qap];repeat (go_big_quiet_step (fail))
   refine wpQuiet_nil ?_;refine qd7 1 rfl ?_;simp only[qai,qao,qah,qaj,qak,qap];repeat (go_big_quiet_step (fail))
   refine wpQuiet_nil ?_;refine qdc 5 rfl ?_;simp only[qai,qao,qah,qaj,qak,qap];repeat (go_big_quiet_step (fail))
   refine wpQuiet_nil ?_;refine qd7 1 rfl ?_;simp only[qai,qao,qah,qaj,qak,qap];repeat (go_big_quiet_step (fail))
   refine wpQuiet_nil ?_;refine qdc 1 rfl ?_;simp only[qai,qao,qah,qaj,qak,qap];repeat (go_big_quiet_step (fail))
   refine wpQuiet_nil ?_;refine qfg rfl ?_;intro K hK;have z0:=qay HX.out.1 (x*2);have z1:=qay HX.out.1 (x*2+1);go_wp2;refine hK.out _ _ (Fr.from_drew ((((Fr.refl [g] wr).setCell (by simp) _).setCell (by simp) _).drew)) ?_;clear hK K z0 z1;obtain⟨w1,hw1⟩:∃w1,w1=((wr.setCell ⟨g,x*2,none⟩ (.int .i64 (qw:Nat))).setCell ⟨g,x*2+1,none⟩ (.slice qa ql qc)):=⟨_,rfl⟩;rw[<-hw1];have hA1:=qa0 (o:=x*2+1) (qa0 (o:=x*2) HX.out.1 (.int .i64 qw)) (.slice qa ql qc);rw[<-hw1]at hA1;obtain⟨A1,hB⟩:∃A1,A1=(A.setIfInBounds (x*2) (.int .i64 (qw:Nat))).setIfInBounds (x*2+1) (.slice qa ql qc):=⟨_,rfl⟩;rw[<-hB]at hA1;have z0:=qay hA1 (y*2);have z1:=qay hA1 (y*2+1);have hxy:x<y:=by have:=HX.out.2.2.2.2.2.2.2.2;omega
   have c2:w1.cell? ⟨g,y*2,none⟩=some (.int .i64 qw):=by rw[cell_of hA1,hB,qac (by omega),qac (by omega),<-cell_of HX.out.1];exact d2
   have c3:w1.cell? ⟨g,y*2+1,none⟩=some (.slice qa ql qc):=by rw[cell_of hA1,hB,qac (by omega),qac (by omega),<-cell_of HX.out.1];exact d3
   have HY:=zhd3 hA1 hB hw1;clear hA1 hB hw1 d0 d1 d2 d3;refine qdc 1 rfl ?_;simp only[qai,qao,qah,qaj,qak,qap];repeat (go_big_quiet_step (fail))
   refine wpQuiet_nil ?_;refine qfg rfl ?_;intro K hK;go_wp2;refine hK.out _ _ (Fr.from_drew ((((Fr.refl [g] w1).setCell (by simp) _).setCell (by simp) _).drew)) ?_;clear hK K z0 z1 c2 c3;refine qjw ?_;go_wp2;go_roundg k;case measure=>omega
   case rel=>
    obtain⟨hA,hAs,hAn,hAt,hAf,hf,hp,hq,hx,hy⟩:=HX.out;obtain⟨hA1,hB,hw1⟩:=HY.out;have hA2:=qa0 (o:=y*2+1) (qa0 (o:=y*2) hA1 (.int .i64 pw)) (.slice pa pl pc);rw[hB]at hA2;obtain⟨w2,hw2⟩:∃w2,w2=((w1.setCell ⟨g,y*2,none⟩ (.int .i64 (pw:Nat))).setCell ⟨g,y*2+1,none⟩ (.slice pa pl pc)):=⟨_,rfl⟩;rw[<-hw2]at hA2 ⊢;refine⟨i+1,by go_num,by omega,?_,?_⟩
    ·rw[swr,<-hx,<-hy];exact Dw.swap _ pw pa pl pc qw qa ql qc hAs hAn hAt hAf hxl hyl hp hq hA2
    ·rw[hw2,hw1];exact ((((hf.setCell (by simp) _).setCell (by simp) _).setCell (by simp) _).setCell (by simp) _).drew
  ·obtain rfl:i=n:=by omega
   have HI:=zhd2 hD hf;clear hD hf;go_wp2;(try simp only[Exit.inBlock,Exit.then]);refine bodyPost_end (results_none rfl _ _ _) rfl ?_;exact⟨rfl,HI.o0,HI.l1⟩
end Go.Proofs.YtbabjlohkniciaaGreatDoor.huf
namespace Go.Proofs.YtbabjlohkniciaaGreatDoor.huf
open Go Go.RowKit lib
theorem qrx (f:Nat→Mc) (a b:Nat):∀n,a+n≤b→∀t,swr f a b n t=if a≤t∧t<a+n then f (t-a+b) else if b≤t∧t<b+n then f (t-b+a) else f t
 | 0,_,t=>by rw[if_neg (by omega),if_neg (by omega)];rfl
 | n+1,h,t=>by
  have ih:=qrx f a b n (by omega);show (if t=b+n then swr f a b n (a+n) else if t=a+n then swr f a b n (b+n) else swr f a b n t)=_;rw[ih,ih,ih];by_cases h1:t=b+n
  ·subst h1;rw[if_pos rfl,if_neg (by omega),if_neg (by omega),if_neg (by omega),if_pos (by omega)];congr 1;omega
  ·rw[if_neg h1];by_cases h2:t=a+n
   ·subst h2;rw[if_pos rfl,if_neg (by omega),if_neg (by omega),if_pos (by omega)];congr 1;omega
   ·rw[if_neg h2];by_cases h3:a≤t∧t<a+n
    ·rw[if_pos h3,if_pos (by omega)]
    ·rw[if_neg h3,if_neg (c:=a≤t∧t<a+(n+1)) (by omega)];by_cases h4:b≤t∧t<b+n
     ·rw[if_pos h4,if_pos (by omega)]
     ·rw[if_neg h4,if_neg (by omega)]
def rotf (f:Nat→Mc) (a m b:Nat):Nat→Mc:=λt=>if a≤t∧t<a+(b-m) then f (t-a+m) else if a+(b-m)≤t∧t<b then f (t-(b-m)) else f t
theorem qem {f:Nat→Mc} {a m b t:Nat} (h1:a≤t) (h2:t<a+(b-m)):rotf f a m b t=f (t-a+m):=if_pos ⟨h1,h2⟩
theorem qfw {f:Nat→Mc} {a m b t:Nat} (h1:a+(b-m)≤t) (h2:t<b):rotf f a m b t=f (t-(b-m)):=by unfold rotf;rw[if_neg (by omega),if_pos ⟨h1,h2⟩]
theorem qef {f:Nat→Mc} {a m b t:Nat} (ha:a≤m) (hb:m≤b) (h:t<a∨b≤t):rotf f a m b t=f t:=by unfold rotf;rw[if_neg (by omega),if_neg (by omega)]
theorem zc9 (f:Nat→Mc) (m i:Nat) (hi:i≤m):swr f (m-i) m i=rotf f (m-i) m (m+i):=by
 funext t;rw[qrx f (m-i) m i (by omega) t];unfold rotf;by_cases h1:m-i≤t∧t<m-i+i
 ·rw[if_pos h1,if_pos (by omega)]
 ·rw[if_neg h1,if_neg (c:=m-i≤t∧t<m-i+(m+i-m)) (by omega)];by_cases h2:m≤t∧t<m+i
  ·rw[if_pos h2,if_pos (by omega)];congr 1;omega
  ·rw[if_neg h2,if_neg (by omega)]
theorem zc8 (f:Nat→Mc) (m i j:Nat) (hi:i≤m) (hj:j<i):rotf (swr f (m-i) m j) (m-(i-j)) m (m+j)=rotf f (m-i) m (m+j):=by
 funext t;have e:=qrx f (m-i) m j (by omega);unfold rotf;rw[e,e,e];by_cases h1:m-(i-j)≤t∧t<m-(i-j)+(m+j-m)
 ·rw[if_pos h1];rw[if_neg (c:=m-i≤t-(m-(i-j))+m∧_) (by omega),if_pos (c:=m≤t-(m-(i-j))+m∧_) (by omega),if_neg (c:=m-i≤t∧_) (by omega),if_pos (by omega)];congr 1;omega
 ·rw[if_neg h1];by_cases h2:m-(i-j)+(m+j-m)≤t∧t<m+j
  ·rw[if_pos h2,if_neg (c:=m-i≤t-(m+j-m)∧_) (by omega),if_neg (c:=m≤t-(m+j-m)∧_) (by omega),if_neg (c:=m-i≤t∧_) (by omega),if_pos (by omega)]
  ·rw[if_neg h2];by_cases h3:m-i≤t∧t<m-i+j
   ·rw[if_pos h3,if_pos (by omega)]
   ·rw[if_neg h3,if_neg (c:=m≤t∧_) (by omega),if_neg (by omega),if_neg (by omega)]
theorem zc7 (f:Nat→Mc) (m i j:Nat) (hi:i≤m) (hj:i<j):rotf (swr f (m-i) (m+j-i) i) (m-i) m (m+(j-i))=rotf f (m-i) m (m+j):=by
 funext t;have e:=qrx f (m-i) (m+j-i) i (by omega);unfold rotf;rw[e,e,e];by_cases h1:m-i≤t∧t<m-i+(m+(j-i)-m)
 ·rw[if_pos h1];rw[if_neg (c:=m-i≤t-(m-i)+m∧_) (by omega),if_neg (c:=m+j-i≤t-(m-i)+m∧_) (by omega),if_pos (by omega)]
 ·rw[if_neg h1];by_cases h2:m-i+(m+(j-i)-m)≤t∧t<m+(j-i)
  ·rw[if_pos h2,if_pos (c:=m-i≤t-(m+(j-i)-m)∧_) (by omega),if_pos (c:=m-i≤t∧_) (by omega)];congr 1;omega
  ·rw[if_neg h2,if_neg (c:=m-i≤t∧t<m-i+i) (by omega),if_neg (c:=m-i≤t∧_) (by omega)];by_cases h3:m+j-i≤t∧t<m+j-i+i
   ·rw[if_pos h3,if_pos (by omega)];congr 1;omega
   ·rw[if_neg h3,if_neg (by omega)]
theorem qfv (f:Nat→Mc) (a m b:Nat) (ha:a≤m) (hb:m≤b) (h:a=m∨m=b):rotf f a m b=f:=by
 funext t;unfold rotf;by_cases h1:a≤t∧t<a+(b-m)
 ·rw[if_pos h1];congr 1;omega
 ·rw[if_neg h1];by_cases h2:a+(b-m)≤t∧t<b
  ·rw[if_pos h2];congr 1;omega
  ·rw[if_neg h2]
theorem qr0 (f:Nat→Mc) (i j:Nat) (hj:0<j) (hji:j≤i):swp (rotf f j i (i+1)) j (j-1)=rotf f (j-1) i (i+1):=by
 funext t;unfold swp;by_cases h1:t=j
 ·subst h1;rw[if_pos rfl,qef (by omega) (by omega) (.inl (by omega)),qfw (by omega) (by omega)];congr 1;omega
 ·rw[if_neg h1];by_cases h2:t=j-1
  ·subst h2;rw[if_pos rfl,qem (by omega) (by omega),qem (by omega) (by omega)];congr 1;omega
  ·rw[if_neg h2];by_cases h3:t<j-1∨i+1≤t
   ·rw[qef (by omega) (by omega) (by omega),qef (by omega) (by omega) h3]
   ·rw[qfw (by omega) (by omega),qfw (by omega) (by omega)]
theorem zc6 (f:Nat→Mc) (a k:Nat) (hk:a≤k):swp (rotf f a (a+1) (k+1)) k (k+1)=rotf f a (a+1) (k+2):=by
 funext t;unfold swp;by_cases h1:t=k
 ·subst h1;rw[if_pos rfl,qef (by omega) (by omega) (.inr (by omega)),qem (by omega) (by omega)];congr 1;omega
 ·rw[if_neg h1];by_cases h2:t=k+1
  ·subst h2;rw[if_pos rfl,qfw (by omega) (by omega),qfw (by omega) (by omega)];congr 1;omega
  ·rw[if_neg h2];by_cases h3:t<a∨k+2≤t
   ·rw[qef (by omega) (by omega) (by omega),qef (by omega) (by omega) h3]
   ·rw[qem (by omega) (by omega),qem (by omega) (by omega)]
def tg (x:Mc):Nat×Mc:=(x.worth,x)
def sg (f:Nat→Mc) (a n:Nat):List (Nat×Mc):=(List.range n).map λi=>tg (f (a+i))
theorem qee {f f':Nat→Mc} {a a' n:Nat} (h:∀t,t<n→f (a+t)=f' (a'+t)):sg f a n=sg f' a' n:=by unfold sg;exact List.map_congr_left λt ht=>by rw[h t (qdk.1 ht)]
theorem qor (f:Nat→Mc) (a n m:Nat):sg f a (n+m)=sg f a n++sg f (a+n) m:=by unfold sg;rw[List.range_add,qbt,List.map_map];congr 1;exact List.map_congr_left λt _=>by simp[qcu]
theorem qcw (f:Nat→Mc) (a m b:Nat) (h1:a≤m) (h2:m≤b):sg f a (b-a)=sg f a (m-a)++sg f m (b-m):=by rw[show b-a=(m-a)+(b-m) from by omega,qor,show a+(m-a)=m from by omega]
theorem qry (f:Nat→Mc) (a:Nat):sg f a 1=[tg (f a)]:=rfl
theorem qng (f:Nat→Mc) (a:Nat):sg f a 0=[]:=rfl
theorem qhj {f:Nat→Mc} {a n:Nat} {x:Nat×Mc}:x∈sg f a n↔∃t,t<n∧x=tg (f (a+t)):=by
 unfold sg;rw[qb8];constructor
 ·rintro⟨t,ht,rfl⟩;exact⟨t,qdk.1 ht,rfl⟩
 ·rintro⟨t,ht,rfl⟩;exact⟨t,qdk.2 ht,rfl⟩
theorem ql3 {f:Nat→Mc} {a n:Nat}:Srt (sg f a n)↔∀i j,i≤j→j<n→(f (a+i)).worth≤(f (a+j)).worth:=by
 unfold Srt sg;rw[List.pairwise_map];constructor
 ·intro h i j hij hj;rcases qbq i j with k|k
  ·have:=zaz.1 h i j (by simp;omega) (by simp;omega) k;simpa[tg] using this
  ·obtain rfl:i=j:=by omega
   exact qag _
 ·intro h;refine zaz.2 λi j hi hj hij=>?_
  simp only[qgz]at hi hj;simpa[tg] using h i j (by omega) hj
theorem qfd {f:Nat→Mc} {a n c k:Nat} (h:Srt (sg f a n)) (h1:a≤c) (h2:c+k≤a+n):Srt (sg f c k):=by rw[ql3]at h ⊢;intro i j hij hj;have:=h (c-a+i) (c-a+j) (by omega) (by omega);rwa [show a+(c-a+i)=c+i from by omega,show a+(c-a+j)=c+j from by omega]at this
theorem qet (f:Nat→Mc) (s m e:Nat) (h1:s≤m) (h2:m≤e):sg (rotf f s m e) s (e-m)=sg f m (e-m):=
 qee λt ht=>by rw[qem (by omega) (by omega)];congr 1;omega
theorem qe7 (f:Nat→Mc) (s m e:Nat) (h1:s≤m) (h2:m≤e):sg (rotf f s m e) (s+(e-m)) (m-s)=sg f s (m-s):=
 qee λt ht=>by rw[qfw (by omega) (by omega)];congr 1;omega
theorem qe3 (f:Nat→Mc) (s m e a n:Nat) (h1:s≤m) (h2:m≤e) (h:a+n≤s∨e≤a):sg (rotf f s m e) a n=sg f a n:=
 qee λt ht=>by rw[qef h1 h2 (by omega)]
structure Sd (f f':Nat→Mc) (a b:Nat):Prop where
 out:∀t,t<a∨b≤t→f' t=f t
 srt:Srt (sg f' a (b-a))
 stb:Stb (sg f' a (b-a)) (sg f a (b-a))
theorem qni (f:Nat→Mc) (a i j:Nat) (ha:a≤j) (hj:j≤i) (hs:Srt (sg f a (i-a))) (h1:a<j→(f (j-1)).worth≤(f i).worth) (h2:j<i→(f i).worth<(f j).worth) :
  Sd f (rotf f j i (i+1)) a (i+1):=by
 have hs':=ql3.1 hs;have e0:sg (rotf f j i (i+1)) a (i+1-a)=sg f a (j-a)++tg (f i)::sg f j (i-j):=by
  rw[qcw _ a j (i+1) ha (by omega),qe3 _ _ _ _ _ _ hj (by omega) (.inl (by omega)),qcw _ j (j+1) (i+1) (by omega) (by omega),show j+1-j=i+1-i from by omega,qet _ _ _ _ hj (by omega),show j+1=j+(i+1-i) from by omega,show i+1-(j+(i+1-i))=i-j from by omega,
   qe7 _ _ _ _ hj (by omega),show i+1-i=1 from by omega,qry]
  rfl
 have e1:sg f a (i+1-a)=sg f a (j-a)++sg f j (i-j)++[tg (f i)]:=by rw[qcw f a i (i+1) (by omega) (by omega),qcw f a j i ha hj,show i+1-i=1 from by omega,qry]
 have hp:=qvz (x:=tg (f i)) (A1:=sg f a (j-a)) (A2:=sg f j (i-j)) (by rw[<-qcw f a j i ha hj];exact hs)
  (λy hy=>by
   obtain⟨t,ht,rfl⟩:=qhj.1 hy
   refine qan (hs' t (j-1-a) (by omega) (by omega)) ?_
   rw[show a+(j-1-a)=j-1 from by omega]
   exact h1 (by omega))
  (λy hy=>by
   obtain⟨t,ht,rfl⟩:=qhj.1 hy
   refine qal (h2 (by omega)) ?_
   have:=hs' (j-a) (j-a+t) (by omega) (by omega)
   rwa [show a+(j-a)=j from by omega,show a+(j-a+t)=j+t from by omega]at this)
 exact⟨λt ht=>qef hj (by omega) (by omega),by rw[e0];exact hp.1,by rw[e0,e1];exact hp.2⟩
theorem zb6 (f:Nat→Mc) (a i b:Nat) (hi:a<i) (hb:i≤b) (hs:Srt (sg f (a+1) (b-(a+1)))) (h1:a+1<i→(f (i-1)).worth<(f a).worth) (h2:i<b→(f a).worth≤(f i).worth) :
  Sd f (rotf f a (a+1) i) a b:=by
 have hs':=ql3.1 hs;have e0:sg (rotf f a (a+1) i) a (b-a)=sg f (a+1) (i-(a+1))++tg (f a)::sg f i (b-i):=by
  have q1:=qe3 f a (a+1) i i (b-i) (by omega) (by omega) (.inr (qag _));have q2:=qet f a (a+1) i (by omega) (by omega);have q3:=qe7 f a (a+1) i (by omega) (by omega);have q4:sg (rotf f a (a+1) i) a (i-a)=sg f (a+1) (i-(a+1))++sg f a (a+1-a):=by rw[show i-a=(i-(a+1))+(a+1-a) from by omega,qor,q2,q3]
  rw[qcw _ a i b (by omega) hb,q1,q4,show a+1-a=1 from by omega,qry];simp
 have e1:sg f a (b-a)=tg (f a)::(sg f (a+1) (i-(a+1))++sg f i (b-i)):=by rw[qcw f a (a+1) b (by omega) (by omega),qcw f (a+1) i b (by omega) hb,show a+1-a=1 from by omega,qry];rfl
 have hp:=qzm (x:=tg (f a)) (B1:=sg f (a+1) (i-(a+1))) (B2:=sg f i (b-i)) (by rw[<-qcw f (a+1) i b (by omega) hb];exact hs)
  (λy hy=>by
   obtain⟨t,ht,rfl⟩:=qhj.1 hy
   refine qf3 (hs' t (i-1-(a+1)) (by omega) (by omega)) ?_
   rw[show a+1+(i-1-(a+1))=i-1 from by omega]
   exact h1 (by omega))
  (λy hy=>by
   obtain⟨t,ht,rfl⟩:=qhj.1 hy
   refine qan (h2 (by omega)) ?_
   have:=hs' (i-(a+1)) (i-(a+1)+t) (by omega) (by omega)
   rwa [show a+1+(i-(a+1))=i from by omega,show a+1+(i-(a+1)+t)=i+t from by omega]at this)
 exact⟨λt ht=>qef (by omega) (by omega) (by omega),by rw[e0];exact hp.1,by rw[e0,e1];exact hp.2⟩
theorem za4 (f f1 f2:Nat→Mc) (a m b mid s e:Nat) (hmid:mid=(a+b)/2) (ham:a<m) (hmb:m<b) (hse:s+e=mid+m) (has:a≤s) (hsm:s≤m) (hme:m≤e) (heb:e≤b)
  (hA:Srt (sg f a (m-a))) (hB:Srt (sg f m (b-m)))
  (h1:s<m→m<e→(f (e-1)).worth<(f s).worth) (h2:a<s→e<b→(f (s-1)).worth≤(f e).worth)
  (d1:Sd (rotf f s m e) f1 a mid) (d2:Sd f1 f2 mid b):Sd f f2 a b:=by
 have hA':=ql3.1 hA;have hB':=ql3.1 hB;have em:s+(e-m)=mid:=by omega
 have eA:sg f a (m-a)=sg f a (s-a)++sg f s (m-s):=qcw f a s m has hsm;have eB:sg f m (b-m)=sg f m (e-m)++sg f e (b-e):=qcw f m e b hme heb;have eL:sg (rotf f s m e) a (mid-a)=sg f a (s-a)++sg f m (e-m):=by have q1:=qe3 f s m e a (s-a) hsm hme (.inl (by omega));have q2:=qet f s m e hsm hme;rw[qcw _ a s mid has (by omega),q1,show mid-s=e-m from by omega,q2]
 have eR:sg (rotf f s m e) mid (b-mid)=sg f s (m-s)++sg f e (b-e):=by have q1:=qe3 f s m e e (b-e) hsm hme (.inr (qag _));have q2:=qe7 f s m e hsm hme;rw[em]at q2;rw[qcw _ mid e b (by omega) heb,q1,show e-mid=m-s from by omega,q2]
 have eR1:sg f1 mid (b-mid)=sg (rotf f s m e) mid (b-mid):=qee λt ht=>d1.out _ (.inr (by omega))
 have eL2:sg f2 a (mid-a)=sg f1 a (mid-a):=qee λt ht=>d2.out _ (.inl (by omega))
 have hp:=qy2 (A1:=sg f a (s-a)) (A2:=sg f s (m-s)) (B1:=sg f m (e-m)) (B2:=sg f e (b-e)) (L:=sg f1 a (mid-a)) (R:=sg f2 mid (b-mid))
  (by rw[<-eA];exact hA) (by rw[<-eB];exact hB)
  (λx hx y hy=>by
   obtain⟨t,ht,rfl⟩:=qhj.1 hx
   obtain⟨u,hu,rfl⟩:=qhj.1 hy
   have k1:=hA' (s-a) (s-a+t) (by omega) (by omega)
   have k2:=hB' u (e-1-m) (by omega) (by omega)
   rw[show a+(s-a)=s from by omega,show a+(s-a+t)=s+t from by omega]at k1
   rw[show m+(e-1-m)=e-1 from by omega]at k2
   exact qf3 k2 (qal (h1 (by omega) (by omega)) k1))
  (λx hx y hy=>by
   obtain⟨t,ht,rfl⟩:=qhj.1 hx
   obtain⟨u,hu,rfl⟩:=qhj.1 hy
   have k1:=hA' t (s-1-a) (by omega) (by omega)
   have k2:=hB' (e-m) (e-m+u) (by omega) (by omega)
   rw[show a+(s-1-a)=s-1 from by omega]at k1
   rw[show m+(e-m)=e from by omega,show m+(e-m+u)=e+u from by omega]at k2
   exact qan k1 (qan (h2 (by omega) (by omega)) k2))
  d1.srt (by rw[<-eL];exact d1.stb) d2.srt (by rw[<-eR,<-eR1];exact d2.stb)
 refine⟨λt ht=>?_,?_,?_⟩
 ·rw[d2.out t (by omega),d1.out t (by omega),qef hsm hme (by omega)]
 ·rw[qcw f2 a mid b (by omega) (by omega),eL2];exact hp.1
 ·rw[qcw f2 a mid b (by omega) (by omega),eL2,qcw f a m b (by omega) (by omega),eA,eB];exact hp.2
theorem qnj (f:Nat→Mc) (a b:Nat) (h:Srt (sg f a (b-a))):Sd f f a b:=⟨λ_ _=>rfl,h,.refl _⟩
theorem Sd.trans {f f' f2:Nat→Mc} {a b:Nat} (h:Sd f f' a b) (h':Sd f' f2 a b):Sd f f2 a b:=⟨λt ht=>(h'.out t ht).trans (h.out t ht),h'.srt,h'.stb.trans h.stb⟩
theorem Sd.widen {f f':Nat→Mc} {a b:Nat} (h:Sd f f' a b) (hab:a≤b) {n:Nat} (hn:b≤n):Stb (sg f' 0 n) (sg f 0 n):=by
 have e:∀k:Nat→Mc,sg k 0 n=sg k 0 a++sg k a (b-a)++sg k b (n-b):=λk=>by have h1:=qcw k 0 a n (by omega) (by omega);rw[qod,qod]at h1;rw[h1,qcw k a b n hab hn,qat]
 rw[e f',e f];refine Stb.append (Stb.append ?_ h.stb) ?_
 ·rw[qee (f:=f') (f':=f) λt ht=>h.out _ (.inl (by omega))];exact .refl _
 ·rw[qee (f:=f') (f':=f) λt ht=>h.out _ (.inr (by omega))];exact .refl _
open bm bl
theorem qde (g:Nat) (T:TypeId) (A0:Array Value) (L cap a m b:Nat) (f:Nat→Mc) (cmp:Value) (w:World)
  (h:Dw w g T A0 L f) (ha:a<m) (hb:m<b) (hbL:b≤L) (hL:L≤100000) :
  Calls Tryz.prog 206 #[.slice (some ⟨g,0,none⟩) L cap,.int .i64 a,.int .i64 m,.int .i64 b,cmp] w λe w'=>e = .returned (.tuple #[])∧Dw w' g T A0 L (rotf f a m b)∧Fr [g] w w':=by
 have H:=zhd h;clear h;obtain⟨i0,hi0⟩:=zex (m-a);obtain⟨j0,hj0⟩:=zex (b-m);have e0:(m:Int)-(a:Int)=(i0:Int):=by omega
 have e1:(b:Int)-(m:Int)=(j0:Int):=by omega
 have H0:=zhd5 hi0 hj0 ha hb hbL;have hm:m≤100000:=by omega
 have hi1:1≤i0:=by omega
 have hj1:1≤j0:=by omega
 have hi2:i0≤100000:=by omega
 have hj2:j0≤100000:=by omega
 clear hi0 hj0 ha hb hbL;go_enter Tryz.func206,Tryz.ntmps206;go_wp2;go_loopg [10,11] (i0+j0) (λk s10 s11 wr=>∃i j:Nat,s10 = .int .i64 (i:Nat)∧s11 = .int .i64 (j:Nat)∧k=i+j∧1≤i∧1≤j∧i≤m∧m+j≤L∧∃f1,Dw wr g T A0 L f1∧rotf f1 (m-i) m (m+j)=rotf f a m b∧Fr [g] w wr);case atStart=>obtain⟨k0,k1,k2,k3,k4⟩:=H0.out;exact⟨i0,j0,rfl,rfl,rfl,hi1,hj1,by omega,by omega,f,H.out,by rw[show m-i0=a from by omega,show m+j0=b from by omega],.refl _ w⟩
 case round=>
  obtain⟨i,j,rfl,rfl,hk,k1,k2,k3,k4,f1,hD,hr,hf⟩:=hrel;obtain⟨p,hp⟩:=zex (m-i);have e2:(m:Int)-(i:Int)=(p:Int):=by omega
  have b1:i≤100000:=by omega
  have b2:j≤100000:=by omega
  rw[<-hp]at hr;by_cases hij:i=j
  ·subst hij;have hs:=qis g T A0 L cap i p m f1 cmp wr hD (by omega) (by omega) hL;have er:swr f1 p m i=rotf f a m b:=by rw[<-hr,hp];exact zc9 f1 m i k3
   rw[er]at hs;have HI:=zhd2 hs hf;clear hs hr er hf hD hp k3 k4;go_wp2_with (go_at_call 213;refine HI.o0.mono ?_;rintro e w2 ⟨rfl,hd2,hf2⟩);(try simp only[Exit.inBlock,Exit.then]);refine bodyPost_end (results_none rfl _ _ _) rfl ?_;exact⟨rfl,hd2,HI.l1.trans hf2⟩
  ·have hne:((i:Int)==(j:Int))=false:=by simp only[beq_eq_false_iff_ne];omega
   by_cases hgt:j<i
   ·have hs:=qis g T A0 L cap j p m f1 cmp wr hD (by omega) (by omega) hL;have er:=zc8 f1 m i j k3 hgt;rw[<-hp]at er;have HI:=zhd6 hs hf er hr hp hk;clear hs hr er hf hD hp hk;obtain⟨q,hq⟩:=zex (i-j);have e3:(i:Int)-(j:Int)=(q:Int):=by omega
    have HQ:=zhd hq;clear hq;go_wp2_with (go_at_call 213;refine HI.o0.mono ?_;rintro e w2 ⟨rfl,hd2,hf2⟩;have HW:=zhd2 hd2 hf2;clear hd2 hf2);have hq:=HQ.out;have hk:=HI.out.2.2.2.2.2;go_roundg (q+j);case measure=>omega
    case rel=>exact⟨q,j,by go_num,rfl,rfl,by omega,k2,by omega,k4,_,HW.o0,by rw[hq,HI.out.2.2.1,HI.out.2.2.2.1],HI.l1.1.trans HW.l1⟩
   ·have hlt:i<j:=by omega
    obtain⟨q,hq⟩:=zex (m+j-i);have e3:(m:Int)+(j:Int)-(i:Int)=(q:Int):=by omega
    have hs:=qis g T A0 L cap i p q f1 cmp wr hD (by omega) (by omega) hL;have er:=zc7 f1 m i j k3 hlt;rw[<-hp,<-hq]at er;have HI:=zhd7 hs hf er hr hp hk hq;clear hs hr er hf hD hp hk hq;obtain⟨d,hd⟩:=zex (j-i);have e4:(j:Int)-(i:Int)=(d:Int):=by omega
    have HQ:=zhd hd;clear hd;go_wp2_with (go_at_call 213;refine HI.o0.mono ?_;rintro e w2 ⟨rfl,hd2,hf2⟩;have HW:=zhd2 hd2 hf2;clear hd2 hf2);have hd:=HQ.out;have hk:=HI.out.2.2.2.2.2.1;have hp:=HI.out.2.2.2.2.1;go_roundg (i+d);case measure=>omega
    case rel=>exact⟨i,d,rfl,by go_num,rfl,k1,by omega,k3,by omega,_,HW.o0,by rw[<-hp,hd,HI.out.2.2.1,HI.out.2.2.2.1],HI.l1.1.trans HW.l1⟩
end Go.Proofs.YtbabjlohkniciaaGreatDoor.huf
