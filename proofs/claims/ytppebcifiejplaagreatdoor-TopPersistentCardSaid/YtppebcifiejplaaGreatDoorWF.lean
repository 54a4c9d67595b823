import Derived.Test.YtppebcifiejplaaGreatDoorWE
import Derived.Maps.RangeRun
/-
 Lemmas of the claim. No condition but those that each names.
-/
set_option linter.unusedSimpArgs false
set_option linter.unusedVariables false
set_option maxHeartbeats 8000000
set_option linter.unusedSectionVars false
open Nat renaming reduceBEq->Z0,reduceLeDiff->Z1,reduceAdd->Z2,reduceEqDiff->Z8,reduceLT->Zb,reduceBeqDiff->Zs,le_refl->Zv,zero_le->ZF,mul_le_mul_right->ZK,add_zero->ZM,add_mul->ZO,one_mul->ZP,le_trans->ZS,min_eq_left->ZT,mul_le_mul->ZY,reduceMul->Y2,lt_or_ge->Y5,zero_mul->Y6,sub_self->Ya,zero_add->Yu,add_comm->Yv
open Bool renaming and_self->Z3,and_eq_true->Zh,not_eq_true->Zy,true_and->ZI,false_and->ZZ,and_true->Y3,false_or->Ys,true_or->Yw
open List renaming set_cons_zero->Z4,set_cons_succ->Z5,length_append->Z6,take_of_length_le->Zc,length_drop->Zd,map_nil->Ze,length_take->Zf,map_cons->Zg,length_map->Zi,flatMap_append->Zj,drop_eq_getElem_cons->Zk,getElem_mem->Zl,append_nil->Zm,take_succ_eq_append_getElem->Zo,map_append->Zp,length_cons->Zq,eq_nil_of_length_eq_zero->Zr,append_assoc->Zw,length_nil->Zx,all_eq_true->Zz,take_length->ZA,drop_of_length_le->ZB,take->ZC,mem_of_mem_drop->ZD,flatMap_nil->ZE,any_eq_true->ZH,mem_cons_of_mem->ZJ,nil_append->ZL,drop_zero->ZN,getElem?_eq_getElem->ZQ,take_drop->ZV,take_zero->ZW,mem_of_mem_take->ZX,take_succ_cons->Y0,getElem_of_mem->Y1,pairwise_cons->Y4,mem_map->Y7,flatMap_cons->Y8,drop_sublist->Y9,range'->Yb,replicate->Yc,getElem?_append_right->Yd,take_append_drop->Yf,set_append_right->Yg,length_dropLast->Yh,length_reverse->Yi,getElem?_drop->Yj,getElem_map->Yk,drop_length->Ym,mem_append->Yn,sum_append->Yo,drop_drop->Yp,take_take->Yq,any_map->Yt
open Int renaming natCast_add->Z7,reduceEq->Z9,natCast_one->Za,natCast_zero->Zn,reduceLE->Zt,toNat_natCast->ZG,reduceLT->ZR,add_assoc->Yr
open ByteArray renaming empty->Zu
open Prod renaming mk.inj->ZU
open Classical renaming byContradiction->Ye
open Option renaming getD_some->Yl
open Go.Proofs.YtppebcifiejplaaGreatDoor.Abs.Le renaming refl->XW
namespace Go.Proofs.YtppebcifiejplaaGreatDoor
section
open _root_.Go.Proofs.Tryz
section
open Abs Facts Tr
attribute [local irreducible] awp
set_option maxRecDepth 100000
namespace Tr
theorem zp4{id:Idv}{u:T}(h:(idsT u).Nodup)(j:¬u.id=id)(l:id∈idsT u){a:Idv}{m:Nat}{b:Bool}(n:z3c id u=(a,(m:Int),b)):a∈idsT u/\z10 a (fun _=>zop m (z07 a u).1) u=z0q id u:=by
 obtain⟨i,e,o,d,q,g,_,_⟩:=at_wipe h j l;rw[n]at e d g;simp only at e d g;have e:m=i:=by omega
 subst e;have c:a∈idsT u:=by have:=congrArg Prod.snd g;rw[z1y,decide_eq_true_eq]at this;exact this
 have k:=zg8 (zop m) h c;rw[k]at d;have d:=(ZU d).1;refine⟨c,?_⟩;rw[zcz (f:=zop m) h (Prod.ext rfl (zea c)),d]
theorem deep_one{id:Idv}{t:T}(d:id∈idsT t)(a:¬t.id=id):1<=z7n id t:=by
 obtain⟨i,e,_,b,c⟩:=z8w a (z4s.2 d);rw[zwb c];have:=ze2.2 b;omega
end Tr
set_option maxHeartbeats 32000000 in
theorem pc_move23(u:T)(f7:standsT u=true)(hz:szB u=true)(c:cntT u<=1100)(id:Idv)(hm:id∈idsT u)(d:EIt)(hw:0<=d.it.wh/\d.it.wh<=3)(t1:d.it.to.length<=maxLen)(t2:∀s∈d.it.to,s.label.size<=maxLen) :
  PC prog 32 [z0o u,z0z id,za4 d] (.tup [z0o (if (z1e u d.it.to).2=0 then z57 u id (z1e u d.it.to).1 d.it.wh else u),.int .i64 (if (z1e u d.it.to).2=0 then z67 u id (z1e u d.it.to).1 d.it.wh else (z1e u d.it.to).2)]):=by
 obtain⟨s1,s2,s3,s4,s5,s6⟩:=(z18 u).1 f7;have c0:=ztc u hz c d.it.to t1 t2;have c1:=fun k=>zd2 k u hz (by omega);have c2:=fun k=>ze3 k u hz (by omega);have f4:∀k,szB (z07 k u).1=true:=fun k=>z9g k u hz;have i6:∀k,((z3i k u).length:Int)<=8:=fun k=>by
  unfold z3i;have:=z9c k u;rw[Yi,Zi,Yh];omega
 refine z14 3 (by simp only[pureD.pureL,z02,za5,Z3];rfl) (by simp only[pureD,pureD.pureL,z02,Z3]) (zqzj [] func32 rfl (by decide+kernel) rfl ?_);rw[show Tryz.f32.results.toList=[.cell 6 27,.tmp 7] from rfl]
 by_cases ho:(z1e u d.it.to).2=0
 case neg =>
  rw[if_neg ho,if_neg ho];have r4:decide ((z1e u d.it.to).2=0)=false:=decide_eq_false ho
  repeat'(first|refine nxt ?_|((first|refine zqh fun K b=>?_|refine zqs (c0) ?_);simp(disch:=omega)only[go_sem,Z0,↓reduceIte,reduceCtorEq,Z2,Z1,z0k])|(refine zqd _ rfl ?_ ?_<;>intro c<;>(((try simp only[z05]at c);try omega)))|refine zqu (by(simp(disch:=omega)only[go_sem,Z0,↓reduceIte,Z1]);rfl) rfl ?_|(refine b _ ?_;clear b K))
  exact z06 (by simp only[pureD,pureD.pureL,z04,Z3]) (XW _)
 have I:(z1e u d.it.to).1∈idsT u:=zew (e:=(z1e u d.it.to).2) rfl ho;rw[if_pos ho,if_pos ho];rw[ho]at c0;generalize (z1e u d.it.to).1=to at c0 I⊢;obtain⟨X,hX⟩:∃X,X=(z07 id u).1:=⟨_,rfl⟩
 have i5:szB X=true:=by rw[hX];exact f4 id
 have f3:X.id=id:=by
  obtain⟨_,_,h2,_⟩:=focus id u hm
  rw[hX];exact h2
 have r1:depT X<=8:=by
  rw[hX];have:=zr2 u _ (z4r (zea hm));omega
 have c3:=zd2 to X i5 (by omega);have c4:=c1 id;rw[<-hX]at c4;obtain⟨R,hR⟩:∃R:T×Int,R=(z57 u id to d.it.wh,z67 u id to d.it.wh):=⟨_,rfl⟩
 rw[show z57 u id to d.it.wh=R.1 from by rw[hR],show z67 u id to d.it.wh=R.2 from by rw[hR]];have d4:∀e,z67 u id to d.it.wh=e->¬e=0->R=(u,e):=fun e h1 h2=>by rw[hR,z57,h1,if_neg fun g=>h2 g.1]
 have i2:z67 u id to d.it.wh=0->R=(if to=id then u else z10 (z51 u to d.it.wh) (z4u (zpj u id to d.it.wh) X) (z0q id u),0):=fun h=>by
  rw[hR,z57,h,<-hX]
  by_cases g:to=id
  ·rw[if_pos g,if_neg fun q=>q.2 g]
  ·rw[if_neg g,if_pos ⟨rfl,g⟩]
 have A:z67 u id to d.it.wh=if u.id=id \/ (zer d.it.wh=true/\u.id=to) \/ (to∈idsT X/\(¬to=id \/ zer d.it.wh=false)) then 9 else
   if z1h (z07 (z51 u to d.it.wh) u).1.kind X.kind=false then 9 else if z2u (zhn u id (z51 u to d.it.wh)) X.kind X.label=true then 10 else
   if 64<=(zhn u id (z51 u to d.it.wh)).length \/ 8<(z3i (z51 u to d.it.wh) u).length+1+depT X then 6 else 0:=by
  unfold z67;rw[<-hX]
 clear hR
 repeat'(first|refine nxt ?_|((first|refine z09 (N:=4) rfl fun K b=>?_|refine zqs (c0) ?_);simp(disch:=omega)only[go_sem,Z0,↓reduceIte,reduceCtorEq,Z2,Z1,z0k])|(refine zqd _ rfl ?_ ?_<;>intro c<;>(first|(cases c;done)|((try omega))))|(refine b _ ?_;clear b K))
 (refine z6d (fun a=>a.t 3=.ptr 0 0/\a.t 4=.ptr 1 0/\a.t 5=.ptr 2 0/\a.t 6=.ptr 3 0/\a.t 8=.ptr 4 0/\a.t 10=.bool (zer d.it.wh)/\a.H 0=some (.box 27 (z08 u))/\a.H 1=some (.box 23 (z0a id))/\a.H 2=some (.box 45 (z0w d))/\a.H 3=some (.box 27 [.int .i64 0,.int .i64 0,.int .i64 0,.int .i64 0,.str Zu,.nil,.nil,.nil])/\a.H 4=some (.box 23 (z0a to))/\a.nx=5) ?_ ?_);rotate_left;(rintro a ⟨U,j4,j5,j6,j8,x,o,v,f8,w,B,o8⟩);rotate_left
 ·repeat'(first|((refine zqr fun K b=>?_);simp(disch:=omega)only[go_sem,Z0,↓reduceIte,reduceCtorEq,Z2])|(refine b _ ?_;clear b K)|(refine zqf (fun m=>?_) (fun m=>?_)<;>(have f:=m;try simp only[z05]at f)<;>((first|have i:=eq_false f|have i:=eq_true f);simp(disch:=omega)only[go_sem,Z0,↓reduceIte,reduceCtorEq,Z2,i];clear m i;try omega)))
  all_goals ((refine z5s ?_);simp(disch:=omega)only[go_sem,Z0,true_and,and_true,and_self,z0a])
  all_goals (unfold zer;simp[*])
 generalize b0:zer d.it.wh=L at *
 repeat'(first|refine nxt ?_|((first|refine z09 (N:=7) rfl fun K b=>?_|refine zqs (c4) ?_|refine zqs (c3) ?_);simp(disch:=omega)only[go_sem,Z0,↓reduceIte,Z2,Z1,U,j4,j8,o,v,B,o8,z0a])|(refine b _ ?_;clear b K))
 by_cases e1:u.id=id \/ (L=true/\u.id=to) \/ (to∈idsT X/\(¬to=id \/ L=false))
 ·rw[if_pos e1]at A;rw[d4 9 A (by decide)];rcases e1 with e1|⟨e1,e2⟩|⟨e1,e2⟩
  ·have g1:decide (id=u.id)=true:=decide_eq_true e1.symm
   repeat'(first|refine nxt ?_|((refine z09 (N:=9) rfl fun K b=>?_);simp(disch:=omega)only[go_sem,Z0,↓reduceIte,reduceCtorEq,Z2,Z1,U,j4,j6,o,v,w,z0a,g1])|(refine zqd _ rfl ?_ ?_<;>intro c<;>(first|(cases c;done)|((try omega))))|refine zqu (by(simp(disch:=omega)only[go_sem,Z0,↓reduceIte,Z1,j6,w]);rfl) rfl ?_|(refine b _ ?_;clear b K))
   all_goals exact z06 (by simp only[pureD,pureD.pureL,z04,Z3]) (XW _)
  ·have g1:decide (to=u.id)=true:=decide_eq_true e2.symm
   repeat'(first|refine nxt ?_|((refine z09 (N:=9) rfl fun K b=>?_);simp(disch:=omega)only[go_sem,Z0,↓reduceIte,reduceCtorEq,Z2,Z1,U,j4,j6,o,v,w,z0a])|(refine zqd _ rfl ?_ ?_<;>intro c<;>(first|(cases c;done)|((try omega))))|refine zqu (by(simp(disch:=omega)only[go_sem,Z0,↓reduceIte,Z1,j6,w]);rfl) rfl ?_|(refine b _ ?_;clear b K)|(refine zqf (fun m=>?_) (fun m=>?_)<;>(have f:=m;try simp only[z05]at f)<;>((first|have i:=eq_false f|have i:=eq_true f);simp(disch:=omega)only[go_sem,Z0,↓reduceIte,reduceCtorEq,Z2,Z1,i,U,j8,x,o,B,z0a,e1,g1];clear m i;try omega)))
   all_goals exact z06 (by simp only[pureD,pureD.pureL,z04,Z3]) (XW _)
  ·by_cases e3:to=id
   ·have F:z7n to X=0:=zjo (by rw[f3,e3]);have g3:L=false:=e2.resolve_left fun h=>h e3
    repeat'(first|refine nxt ?_|((refine z09 (N:=9) rfl fun K b=>?_);simp(disch:=omega)only[go_sem,Z0,↓reduceIte,reduceCtorEq,Z2,Z1,U,j4,j6,o,v,w,z0a,F])|(refine zqd _ rfl ?_ ?_<;>intro c<;>(first|(cases c;done)|((try omega))))|refine zqu (by(simp(disch:=omega)only[go_sem,Z0,↓reduceIte,Z1,j6,w]);rfl) rfl ?_|(refine b _ ?_;clear b K)|(refine zqf (fun m=>?_) (fun m=>?_)<;>(have f:=m;try simp only[z05]at f)<;>((first|have i:=eq_false f|have i:=eq_true f);simp(disch:=omega)only[go_sem,Z0,↓reduceIte,ZR,i,x,g3];clear m i;try omega)))
    all_goals exact z06 (by simp only[pureD,pureD.pureL,z04,Z3]) (XW _)
   ·have F:=deep_one e1 (by rw[f3];exact fun h=>e3 h.symm)
    repeat'(first|refine nxt ?_|((refine z09 (N:=9) rfl fun K b=>?_);simp(disch:=omega)only[go_sem,Z0,↓reduceIte,reduceCtorEq,Z2,Z1,U,j4,j6,o,v,w,z0a])|(refine zqd _ rfl ?_ ?_<;>intro c<;>(first|(cases c;done)|((try omega))))|refine zqu (by(simp(disch:=omega)only[go_sem,Z0,↓reduceIte,Z1,j6,w]);rfl) rfl ?_|(refine b _ ?_;clear b K)|(refine zqf (fun m=>?_) (fun m=>?_)<;>(have f:=m;try simp only[z05]at f)<;>((first|have i:(_:Bool)=_:=f|have i:=eq_false f|have i:=eq_true f);simp(disch:=omega)only[go_sem,Z0,↓reduceIte,reduceCtorEq,Z2,Z1,m,i,U,j8,x,o,B,z0a];clear m i;try omega)))
    all_goals exact z06 (by simp only[pureD,pureD.pureL,z04,Z3]) (XW _)
 rw[if_neg e1]at A;simp only[not_or,not_and,Classical.not_not,Bool.not_eq_false]at e1;obtain⟨n1,n2,n3⟩:=e1;have g1:decide (id=u.id)=false:=decide_eq_false fun e=>n1 e.symm
 repeat' skip
 (refine z5o (fun a=>a.t 3=.ptr 0 0/\a.t 4=.ptr 1 0/\a.t 5=.ptr 2 0/\a.t 6=.ptr 3 0/\a.t 8=.ptr 4 0/\a.t 10=.bool L/\a.t 11=.ptr 5 0/\a.H 0=some (.box 27 (z08 u))/\a.H 1=some (.box 23 (z0a id))/\a.H 2=some (.box 45 (z0w d))/\a.H 3=some (.box 27 [.int .i64 0,.int .i64 0,.int .i64 0,.int .i64 0,.str Zu,.nil,.nil,.nil])/\a.H 4=some (.box 23 (z0a to))/\a.H 5=some (.box 27 (z08 X))/\a.nx=7) ?_ ?_);rotate_left;(rintro a ⟨k3,k4,k5,k6,k8,d5,j2,d6,j7,j9,k0,d7,k1,o9⟩);rotate_left
 ·by_cases j1:to∈idsT X
  ·obtain⟨e2,e3⟩:=n3 j1;have F:z7n to X=0:=zjo (by rw[f3,e2]);have g3:decide (to=u.id)=false:=decide_eq_false fun e=>n2 e3 e.symm
   repeat'(first|((refine zqh fun K b=>?_);simp(disch:=omega)only[go_sem,Z0,↓reduceIte,reduceCtorEq,Z2,Z1,ZR,U,j4,j8,x,o,v,B,z0a,g1,F,g3,e3])|((refine zqm _ rfl (fun c=>?_) (fun c=>?_))<;>(first|(cases c;done)|((try omega))))|refine nxt ?_|(refine b _ ?_;clear b K))
   (refine z5s ?_);simp(disch:=omega)only[go_sem,Z0,U,j4,j5,j6,j8,x,o,v,f8,w,B,and_self,z0a]
  ·have F:=zwa j1;cases L with
   |true =>
    have g3:decide (to=u.id)=false:=decide_eq_false fun e=>n2 rfl e.symm
    repeat'(first|((refine zqh fun K b=>?_);simp(disch:=omega)only[go_sem,Z0,↓reduceIte,reduceCtorEq,Z2,Z1,ZR,U,j4,j8,x,o,v,B,z0a,g1,F,g3])|((refine zqm _ rfl (fun c=>?_) (fun c=>?_))<;>(first|(cases c;done)|((try omega))))|refine nxt ?_|(refine b _ ?_;clear b K))
    (refine z5s ?_);simp(disch:=omega)only[go_sem,Z0,U,j4,j5,j6,j8,x,o,v,f8,w,B,and_self,z0a]
   |false =>
    repeat'(first|((refine zqh fun K b=>?_);simp(disch:=omega)only[go_sem,Z0,↓reduceIte,reduceCtorEq,Z2,Z1,ZR,U,j4,x,o,v,z0a,g1,F])|((refine zqm _ rfl (fun c=>?_) (fun c=>?_))<;>(first|(cases c;done)|((try omega))))|refine nxt ?_|(refine b _ ?_;clear b K))
    (refine z5s ?_);simp(disch:=omega)only[go_sem,Z0,U,j4,j5,j6,j8,x,o,v,f8,w,B,and_self,z0a]
 obtain⟨j,p⟩:∃j,j=z51 u to d.it.wh:=⟨_,rfl⟩
 rw[<-p]at A i2;obtain⟨P,hP⟩:∃P,P=(z07 j u).1:=⟨_,rfl⟩
 obtain⟨dp,b6⟩:∃dp,dp=(z3i j u).length:=⟨_,rfl⟩
 rw[<-hP,<-b6]at A;have b7:j∈idsT u:=by
  rw[p];unfold z51;split
  ·rename_i m;obtain⟨q,l,y,r,a1,_,_,_,_,_,_,h,_⟩:=zdw s4 (n2 (b0 ▸ m)) I;rw[a1];exact h
  ·exact I
 have c5:=c1 to;have c6:=c2 to
 repeat'(first|refine nxt ?_|((first|refine z09 (N:=10) rfl fun K b=>?_|refine zqs (c5) ?_);simp(disch:=omega)only[go_sem,Z0,↓reduceIte,Z2,Z1,k3,k8,d6,d7,o9,z0a])|(refine b _ ?_;clear b K))
 (refine z5o (fun a=>a.t 3=.ptr 0 0/\a.t 4=.ptr 1 0/\a.t 5=.ptr 2 0/\a.t 6=.ptr 3 0/\a.t 8=.ptr 4 0/\a.t 10=.bool L/\a.t 11=.ptr 5 0/\a.t 15=.ptr 7 0/\a.t 16=.int .i64 dp/\a.H 0=some (.box 27 (z08 u))/\a.H 1=some (.box 23 (z0a id))/\a.H 2=some (.box 45 (z0w d))/\a.H 3=some (.box 27 [.int .i64 0,.int .i64 0,.int .i64 0,.int .i64 0,.str Zu,.nil,.nil,.nil])/\a.H 4=some (.box 23 (z0a to))/\a.H 5=some (.box 27 (z08 X))/\a.H 7=some (.box 27 (z08 P))/\a.nx=8) ?_ ?_);rotate_left;(rintro a ⟨m3,m4,m5,m6,m8,k2,d8,Y,k7,d9,f9,k9,e0,l0,e4,Z,l1⟩);rotate_left
 ·cases L with
  |true =>
   have f6:j=(z3c to u).1:=by rw[p];unfold z51;rw[if_pos b0]
   rw[zig s4 (n2 rfl) I,<-f6,<-hP,<-b6]at c6;have o4:z1d (z08 (z07 to u).1) 0 (z08 P)=z08 P:=z2d _ _ (by rw[z0h,z0h])
   repeat'(first|((first|refine zqh fun K b=>?_|refine zqr fun K b=>?_|refine zqs (c6) ?_);simp(disch:=omega)only[go_sem,Z0,↓reduceIte,Z2,Z1,k3,k8,d5,d6,d7,z0a])|((refine zqm _ rfl (fun c=>?_) (fun c=>?_))<;>(first|(cases c;done)|((try omega))))|(refine b _ ?_;clear b K))
   (refine z5s ?_);simp(disch:=omega)only[go_sem,Z0,k3,k4,k5,k6,k8,d5,j2,d6,j7,j9,k0,d7,k1,and_self,z0a,o4]
  |false =>
   have f6:j=to:=by rw[p];unfold z51;rw[if_neg (by rw[b0];decide)]
   rw[f6]at hP b6;have o1:z7n to u=(dp:Int):=by rw[deep_in I,b6]
   repeat'(first|((refine zqh fun K b=>?_);simp(disch:=omega)only[go_sem,Z0,d5])|((refine zqm _ rfl (fun c=>?_) (fun c=>?_))<;>(first|(cases c;done)|((try omega))))|refine nxt ?_|(refine b _ ?_;clear b K))
   (refine z5s ?_);simp(disch:=omega)only[go_sem,Z0,k3,k4,k5,k6,k8,d5,j2,d6,j7,j9,k0,d7,k1,and_self,z0a,<-hP,o1]
 have i1:szB P=true:=by rw[hP];exact f4 j
 obtain⟨p0,p1,p2,p3,p4,p5,p6⟩:=(z1k P).1 i1;have f2:P.id=j:=by
  obtain⟨_,_,h2,_⟩:=focus j u b7
  rw[hP];exact h2
 have i8:=i6 j;rw[<-b6]at i8;have c7:=zge P.kind X.kind
 by_cases q1:z1h P.kind X.kind=true
 case neg =>
  rw[Zy]at q1;rw[if_pos q1]at A;rw[d4 9 A (by decide)];rw[q1]at c7
  repeat'(first|refine nxt ?_|((first|refine zqh fun K b=>?_|refine zqs (c7) ?_);simp(disch:=omega)only[go_sem,Z0,↓reduceIte,reduceCtorEq,Z2,Z1,m3,m6,d8,Y,d9,e0,e4,Z,l1])|(refine zqd _ rfl ?_ ?_<;>intro c<;>(first|(cases c;done)|((try omega))))|refine zqu (by(simp(disch:=omega)only[go_sem,Z0,↓reduceIte,Z1,m6,e0]);rfl) rfl ?_|(refine b _ ?_;clear b K))
  exact z06 (by simp only[pureD,pureD.pureL,z04,Z3]) (XW _)
 rw[if_neg (by rw[q1];decide)]at A;rw[q1]at c7;obtain⟨q,l,y,r,a1,a2,a3,a4,a5,a6,a7,a8,a9⟩:=zdw s4 n1 hm;obtain⟨O,hO⟩:∃O,O=q.setKids (l++y::r):=⟨_,rfl⟩
 have m2:O.kids=l++y::r:=by rw[hO];rfl
 have h0:O.id=q.id:=by rw[hO];rfl
 rw[<-hO]at a4;have n0:szB O=true:=by have:=f4 q.id;rw[a4]at this;exact this
 have m7:O.kids.length<=1000000:=((z1k O).1 n0).2.2.2.2.2.1;have m9:l.length<O.kids.length:=by rw[m2];simp
 have c8:=c2 id;rw[zig s4 n1 hm,a1]at c8;simp only[a4]at c8;have q9:=i6 q.id;have c9:=zw8 O.kids m7 l.length m9;obtain⟨K,b⟩:∃K,K=zhn u id j:=⟨_,rfl⟩
 rw[<-b]at A;have Q:K=if q.id=j then O.kids.eraseIdx l.length else P.kids:=by
  rw[b];unfold zhn;rw[a1,<-hP];simp only[ZG]
  by_cases e:q.id=j
  ·rw[if_pos e,if_pos e,hP,<-e,a4]
  ·rw[if_neg e,if_neg e]
 have m1:K.length<=1000000:=by
  rw[Q];split
  ·have:=List.length_eraseIdx_le O.kids l.length;omega
  ·exact p5
 repeat'(first|refine nxt ?_|((first|refine z09 (N:=16) rfl fun K b=>?_|refine zqs (c7) ?_|refine zqs (c8) ?_);simp(disch:=omega)only[go_sem,Z0,↓reduceIte,reduceCtorEq,Z2,Z1,m3,m4,d8,Y,d9,f9,e4,Z,l1,z0l])|(refine zqd _ rfl ?_ ?_<;>intro c<;>(first|(cases c;done)|((try omega))))|(refine b _ ?_;clear b K))
 (refine z5o (fun a=>a.t 3=.ptr 0 0/\a.t 4=.ptr 1 0/\a.t 5=.ptr 2 0/\a.t 6=.ptr 3 0/\a.t 8=.ptr 4 0/\a.t 10=.bool L/\a.t 11=.ptr 5 0/\a.t 15=.ptr 7 0/\a.t 16=.int .i64 dp/\a.t 17=.ptr 8 0/\a.t 19=.int .i64 l.length/\a.t 20=z0l K/\a.H 0=some (.box 27 (z08 u))/\a.H 1=some (.box 23 (z0a id))/\a.H 2=some (.box 45 (z0w d))/\a.H 3=some (.box 27 [.int .i64 0,.int .i64 0,.int .i64 0,.int .i64 0,.str Zu,.nil,.nil,.nil])/\a.H 4=some (.box 23 (z0a to))/\a.H 5=some (.box 27 (z08 X))/\a.H 7=some (.box 27 (z08 P))/\a.H 8=some (.box 27 (z08 O))/\a.nx=9) ?_ ?_);rotate_left;(rintro a ⟨n3,n4,n5,n6,n8,p7,C,l3,g0,p8,p9,e5,b8,l4,l5,J,g4,E,l6,l7,e6⟩);rotate_left
 ·by_cases e:q.id=j
  ·rw[if_pos e]at Q;have i0:P=O:=by rw[hP,<-e,a4]
   have F:decide (O.id=P.id)=true:=decide_eq_true (by rw[i0]);rw[<-i0]at c9 Q
   repeat'(first|((first|refine zqh fun K b=>?_|refine zqr fun K b=>?_|refine zqs (c9) ?_);simp(disch:=omega)only[go_sem,Z0,↓reduceIte,reduceCtorEq,Z2,Z1,Y,Z,z0a,z0l,F])|((refine zqm _ rfl (fun c=>?_) (fun c=>?_))<;>(first|(cases c;done)|((try omega))))|(refine b _ ?_;clear b K))
   (refine z5s ?_);simp(disch:=omega)only[go_sem,Z0,m3,m4,m5,m6,m8,k2,d8,Y,k7,d9,f9,k9,e0,l0,e4,Z,and_self,z0a,Q,z0l]
  ·rw[if_neg e]at Q;have F:decide (O.id=P.id)=false:=decide_eq_false (by rw[h0,f2];exact e)
   repeat'(first|((refine zqh fun K b=>?_);simp(disch:=omega)only[go_sem,Z0,↓reduceIte,reduceCtorEq,Z2,Z1,Y,Z,z0a,F])|((refine zqm _ rfl (fun c=>?_) (fun c=>?_))<;>(first|(cases c;done)|((try omega))))|refine nxt ?_|(refine b _ ?_;clear b K))
   (refine z5s ?_);simp(disch:=omega)only[go_sem,Z0,m3,m4,m5,m6,m8,k2,d8,Y,k7,d9,f9,k9,e0,l0,e4,Z,and_self,z0a,Q,z0l]
 have M:=zgd K m1 X.kind X.label;have e8:=zq8 X i5 (by omega)
 by_cases q2:z2u K X.kind X.label=true
 ·rw[if_pos q2]at A;rw[d4 10 A (by decide)];rw[q2]at M
  repeat'(first|refine nxt ?_|((first|refine zqh fun K b=>?_|refine zqs (M) ?_);simp(disch:=omega)only[go_sem,Z0,↓reduceIte,reduceCtorEq,Z2,Z1,n3,n6,C,e5,b8,J,E,e6])|(refine zqd _ rfl ?_ ?_<;>intro c<;>(first|(cases c;done)|((try omega))))|refine zqu (by(simp(disch:=omega)only[go_sem,Z0,↓reduceIte,Z1,n6,J]);rfl) rfl ?_|(refine b _ ?_;clear b K))
  exact z06 (by simp only[pureD,pureD.pureL,z04,Z3]) (XW _)
 rw[if_neg q2]at A;rw[Zy]at q2;rw[q2]at M
 by_cases q3:64<=K.length \/ 8<dp+1+depT X
 ·rw[if_pos q3]at A;rw[d4 6 A (by decide)]
  repeat'(first|refine nxt ?_|((first|refine z09 (N:=22) rfl fun K b=>?_|refine zqs (M) ?_|refine zqs (e8) ?_);simp(disch:=omega)only[go_sem,Z0,↓reduceIte,reduceCtorEq,Z2,Z1,n3,n6,C,e5,b8,J,E,e6,z0l])|(refine zqd _ rfl ?_ ?_<;>intro c<;>(first|(cases c;done)|((try simp only[z05]at c);try omega)))|refine zqu (by(simp(disch:=omega)only[go_sem,Z0,↓reduceIte,Z1,n6,J]);rfl) rfl ?_|(refine b _ ?_;clear b K)|(refine zqf (fun m=>?_) (fun m=>?_)<;>(have f:=m;try simp only[z05]at f)<;>((first|have i:=eq_false f|have i:=eq_true f);simp(disch:=omega)only[go_sem,Z0,↓reduceIte,Z2,Z1,i,C,g0,E];clear m i;try omega)))
  all_goals exact z06 (by simp only[pureD,pureD.pureL,z04,Z3]) (XW _)
 rw[if_neg q3]at A;rw[i2 A]
 by_cases e:to=id
 ·rw[if_pos e];have F:decide (to=id)=true:=decide_eq_true e
  repeat'(first|refine nxt ?_|((first|refine zqh fun K b=>?_|refine zqs (M) ?_|refine zqs (e8) ?_);simp(disch:=omega)only[go_sem,Z0,↓reduceIte,reduceCtorEq,Z2,Z1,n3,n4,n6,n8,C,e5,b8,l4,J,g4,E,e6,z0l,z0a,F])|(refine zqd _ rfl ?_ ?_<;>intro c<;>(first|(cases c;done)|((try simp only[z05]at c);try omega)))|refine zqu (by(simp(disch:=omega)only[go_sem,Z0,↓reduceIte,Z1,n6,J]);rfl) rfl ?_|(refine b _ ?_;clear b K)|(refine zqf (fun m=>?_) (fun m=>?_)<;>(have f:=m;try simp only[z05]at f)<;>((first|have i:=eq_false f|have i:=eq_true f);simp(disch:=omega)only[go_sem,Z0,↓reduceIte,Z2,Z1,i,C,g0,E];clear m i;try omega)))
  exact z06 (by simp only[pureD,pureD.pureL,z04,Z3]) (XW _)
 rw[if_neg e];have F:decide (to=id)=false:=decide_eq_false e;obtain⟨b1,b2,b3⟩:=zbn f7 hm I A;obtain⟨b4,b5,_⟩:=b3 e;rw[<-p]at b4 b5;rw[<-hX]at b5;obtain⟨_,w2⟩:=zp4 s4 n1 hm a1;rw[a4]at w2;obtain⟨W,hW⟩:∃W,W=z0q id u:=⟨_,rfl⟩
 obtain⟨V,hV⟩:∃V,V=z0q id P:=⟨_,rfl⟩
 have i4:szB W=true:=by rw[hW];exact zol u hz
 have n9:szB V=true:=by rw[hV];exact zol P i1
 have r0:depT W<=8:=by rw[hW];have:=zx9 (id:=id) u;omega
 have o0:standsT W=true:=by
  obtain⟨_,_,_,_,_,_,h4,_⟩:=z6t f7 n1 hm;rw[hW];exact h4
 have j0:z07 j W=(V,true):=by
  rw[hW,hV,hP];exact zfr u s4 n1 b7 fun z o7=>by
   have:X=z:=by rw[hX,o7]
   rw[<-this];exact b5
 have i3:V.kids.length<=1000000:=((z1k V).1 n9).2.2.2.2.2.1;have n7:V.id=j:=by rw[hV,(z4j id P).1,f2]
 have e9:=z8o (zop l.length O) u hz;rw[show (zop l.length O).id=q.id from h0,w2,<-hW]at e9;rw[show z0o (zop l.length O)=.agg [.int .i64 O.id.act,.int .i64 O.id.item,.int .i64 O.id.n,.int .i64 O.kind,.str O.label,z0f O.head,z0f O.words,z0l (O.kids.eraseIdx l.length)] from by rw[z0o,z0n];rfl]at e9;have f0:=zd2 j W i4 (by omega);rw[j0]at f0;obtain⟨k,hk⟩:∃k,k=zpj u id to d.it.wh:=⟨_,rfl⟩
 rw[<-hk,<-hW];have G:k=if L=true then z1r (fun z=>decide (z.id=to)) V.kids+(if d.it.wh=2 then 1 else 0) else if d.it.wh=0 then 0 else V.kids.length:=by
  rw[hk];unfold zpj;rw[<-p,<-hP,<-hV,b0]
 have i9:L=true->z1r (fun z=>decide (z.id=to)) V.kids<V.kids.length:=fun m=>by
  obtain⟨q2,l2,y2,r2,h1,h2,h3,h4,h5,h6,h7,h8,h9⟩:=zdw s4 (n2 m) I;have o3:j=q2.id:=by rw[p];unfold z51;rw[if_pos (b0.trans m),h1]
  have:=z7e (fun z:T=>decide (z.id=to)) V.kids;have i7:V.kids.any (fun z=>decide (z.id=to))=true:=by
   rw[hV,z4z];show ((List.filter _ _).map _).any _=true;rw[Yt,ZH];refine⟨y2,List.mem_filter.2 ⟨?_,zbo (by rw[h3];exact e)⟩,?_⟩
   ·rw[hP,o3,h4];show y2∈l2++y2::r2;simp
   ·show decide ((z0q id y2).id=to)=true;rw[(z4j id y2).1,decide_eq_true h3]
  rw[i7]at this;exact of_decide_eq_true this
 have o2:k<=V.kids.length:=by
  rw[G];split
  ·rename_i m;have:=i9 m;split<;>omega
  ·split
   ·exact ZF _
   ·exact Zv _
 repeat'(first|refine nxt ?_|((first|refine z09 (N:=24) rfl fun K b=>?_|refine zqs (M) ?_|refine zqs (e8) ?_);simp(disch:=omega)only[go_sem,Z0,↓reduceIte,reduceCtorEq,Z2,Z1,n4,n8,C,e5,l4,g4,E,z0l,z0a,F])|(refine zqd _ rfl ?_ ?_<;>intro c<;>(first|(cases c;done)|((try simp only[z05]at c);try omega)))|(refine b _ ?_;clear b K)|(refine zqf (fun m=>?_) (fun m=>?_)<;>(have f:=m;try simp only[z05]at f)<;>((first|have i:=eq_false f|have i:=eq_true f);simp(disch:=omega)only[go_sem,Z0,↓reduceIte,Z2,Z1,i,C,g0,E];clear m i;try omega)))
 simp only[z0n O]at l7;have o5:z1d (z08 u) 0 (z08 W)=z08 W:=z2d _ _ (by rw[z0h,z0h]);have o6:z1d (z08 P) 0 (z08 V)=z08 V:=z2d _ _ (by rw[z0h,z0h]);rw[<-f2]at f0
 repeat'(first|refine nxt ?_|((first|refine z09 (N:=28) rfl fun K b=>?_|refine zqs (c9) ?_|refine zqs (e9) ?_|refine zqs (f0) ?_);simp(disch:=omega)only[go_sem,Z0,↓reduceIte,reduceCtorEq,Z2,Z1,Zb,n3,l3,p8,p9,b8,l6,l7,e6,z0l,o5,o6,Z5,Z4])|(refine b _ ?_;clear b K))
 (refine z5o (fun a=>a.t 3=.ptr 0 0/\a.t 5=.ptr 2 0/\a.t 6=.ptr 3 0/\a.t 8=.ptr 4 0/\a.t 10=.bool L/\a.t 11=.ptr 5 0/\a.t 15=.ptr 7 0/\a.t 21=.int .i64 (if d.it.wh=0 then 0 else (V.kids.length:Int))/\a.H 0=some (.box 27 (z08 W))/\a.H 2=some (.box 45 (z0w d))/\a.H 3=some (.box 27 [.int .i64 0,.int .i64 0,.int .i64 0,.int .i64 0,.str Zu,.nil,.nil,.nil])/\a.H 4=some (.box 23 (z0a to))/\a.H 5=some (.box 27 (z08 X))/\a.H 7=some (.box 27 (z08 V))/\a.nx=9) ?_ ?_);rotate_left;(rintro a ⟨r3,r5,r6,r8,a0,g5,b9,e7,g6,d0,g7,d1,g8,d2,g9⟩);rotate_left
 ·repeat'(first|((first|refine zqh fun K b=>?_|refine zqr fun K b=>?_);simp(disch:=omega)only[go_sem,Z0,↓reduceIte,reduceCtorEq,Z2,n5,l5])|((refine zqm _ rfl (fun c=>?_) (fun c=>?_))<;>(((try simp only[z05]at c);try omega)))|refine nxt ?_|(refine b _ ?_;clear b K))
  all_goals ((refine z5s ?_);simp(disch:=omega)only[go_sem,Z0,↓reduceIte,n3,n5,n6,n8,p7,C,l3,b8,l5,J,g4,E,l6,and_self,c])
 (refine z6d (fun a=>a.t 3=.ptr 0 0/\a.t 5=.ptr 2 0/\a.t 6=.ptr 3 0/\a.t 8=.ptr 4 0/\a.t 10=.bool L/\a.t 11=.ptr 5 0/\a.t 15=.ptr 7 0/\a.t 21=.int .i64 k/\a.H 0=some (.box 27 (z08 W))/\a.H 2=some (.box 45 (z0w d))/\a.H 3=some (.box 27 [.int .i64 0,.int .i64 0,.int .i64 0,.int .i64 0,.str Zu,.nil,.nil,.nil])/\a.H 4=some (.box 23 (z0a to))/\a.H 5=some (.box 27 (z08 X))/\a.H 7=some (.box 27 (z08 V))/\a.nx=9) ?_ ?_);rotate_left;(rintro a ⟨t3,t5,t6,t8,r7,q0,q4,q5,q6,r9,l8,s0,q7,l9,q8⟩);rotate_left
 ·cases L with
  |true =>
   have hf:=i9 rfl;have d3:=pc_at23 V.kids i3 to;unfold atI at d3;rw[if_pos hf]at d3;rw[if_pos rfl]at G
   by_cases h2:d.it.wh=2
   ·rw[if_pos h2]at G;have f5:(k:Int)=(z1r (fun z=>decide (z.id=to)) V.kids:Int)+1:=by omega
    repeat'(first|((first|refine zqh fun K b=>?_|refine zqr fun K b=>?_|refine zqs (d3) ?_);simp(disch:=omega)only[go_sem,Z0,↓reduceIte,reduceCtorEq,Z2,Z1,Z9,r5,r8,a0,b9,e7,d0,d1,d2,g9,z0l,z0a,h2])|((refine zqm _ rfl (fun c=>?_) (fun c=>?_))<;>(first|(cases c;done)|((try omega))))|(refine b _ ?_;clear b K))
    (refine z5s ?_);simp(disch:=omega)only[go_sem,Z0,r3,r5,r6,r8,a0,g5,b9,e7,g6,d0,g7,d1,g8,d2,and_self,z0a,f5]
   ·rw[if_neg h2,ZM]at G
    repeat'(first|((first|refine zqh fun K b=>?_|refine zqs (d3) ?_);simp(disch:=omega)only[go_sem,Z0,↓reduceIte,reduceCtorEq,Z2,Z1,r5,r8,a0,b9,d0,d1,d2,g9,z0l,z0a])|((refine zqm _ rfl (fun c=>?_) (fun c=>?_))<;>(first|(cases c;done)|((try simp only[z05]at c);try omega)))|refine nxt ?_|(refine b _ ?_;clear b K))
    (refine z5s ?_);simp(disch:=omega)only[go_sem,Z0,r3,r5,r6,r8,a0,g5,b9,e7,g6,d0,g7,d1,g8,d2,and_self,z0a,G]
  |false =>
   rw[if_neg (by decide)]at G;have f5:(if d.it.wh=0 then 0 else (V.kids.length:Int))=(k:Int):=by
    rw[G];split<;>rfl
   repeat'(first|((refine zqh fun K b=>?_);simp(disch:=omega)only[go_sem,a0])|((refine zqm _ rfl (fun c=>?_) (fun c=>?_))<;>(first|(cases c;done)|((try omega))))|refine nxt ?_|(refine b _ ?_;clear b K))
   (refine z5s ?_);simp(disch:=omega)only[go_sem,Z0,r3,r5,r6,r8,a0,g5,b9,e7,g6,d0,g7,d1,g8,d2,g9,and_self,f5]
 have m0:=pc_in23 V.kids i3 k o2 X;have f1:=z8o (z4u k X V) W i4;rw[show (z4u k X V).id=j from n7]at f1;rw[show z0o (z4u k X V)=.agg [.int .i64 V.id.act,.int .i64 V.id.item,.int .i64 V.id.n,.int .i64 V.kind,.str V.label,z0f V.head,z0f V.words,z0l (V.kids.take k++X::V.kids.drop k)] from by rw[z0o,z0n];rfl]at f1;rw[<-zcz (z1f o0) j0];simp only[z0n V]at l9
 repeat'(first|((first|refine zqh fun K b=>?_|refine zqs (m0) ?_|refine zqs (f1) ?_);simp(disch:=omega)only[go_sem,Z0,↓reduceIte,reduceCtorEq,Z2,Z1,Zb,t3,t6,q0,q4,q5,q6,l8,q7,l9,q8,z0l,Z5,Z4])|refine nxt ?_|refine zqu (by(simp(disch:=omega)only[go_sem,Z0,↓reduceIte,Z1,t6,l8]);rfl) rfl ?_|(refine b _ ?_;clear b K))
 exact z06 (by simp only[pureD,pureD.pureL,z04,Z3]) (XW _)
end
section
open Abs Facts Tr
namespace Tr
def occL(row:List ByteArray):List ByteArray->Nat->Nat->List Nat
 |[],_,_=>[]
 |_::r,s+1,i=>occL row r s (i+1)
 |x::r,0,i=>if (x::r).take row.length=row then i::occL row r (row.length-1) (i+1) else occL row r 0 (i+1)
theorem zw0(row:List ByteArray):∀(l:List ByteArray) (s i:Nat),occL row l s i=occL row (l.drop s) 0 (i+s)
 |[],s,i=>by simp[occL]
 |x::r,0,i=>rfl
 |x::r,s+1,i=>by
  rw[occL,zw0 row r s (i+1),List.drop_succ_cons,show i+1+s=i+(s+1) from by omega]
def z8m(w row:List ByteArray)(i:Nat):List Nat:=occL row (w.drop i) 0 i
theorem zjd{w row:List ByteArray}{i:Nat}(h:w.length<=i):z8m w row i=[]:=by
 unfold z8m;rw[ZB h];rfl
theorem zto{w row:List ByteArray}{i:Nat}(h:i<w.length)(b:0<row.length)(a:(w.drop i).take row.length=row):z8m w row i=i::z8m w row (i+row.length):=by
 unfold z8m;rw[Zk h]at a⊢;rw[occL,if_pos a,zw0,Yp,show i+1+(row.length-1)=i+row.length from by omega]
theorem zw1{w row:List ByteArray}{i:Nat}(h:i<w.length)(a:¬(w.drop i).take row.length=row):z8m w row i=z8m w row (i+1):=by
 unfold z8m;rw[Zk h]at a⊢;rw[occL,if_neg a]
theorem zje{w row:List ByteArray}{i:Nat}(a:0<row.length)(h:w.length<i+row.length):¬(w.drop i).take row.length=row:=fun e=>by
 have:=congrArg List.length e;simp only[Zf,Zd]at this;omega
theorem occ_short{w row:List ByteArray}(b:0<row.length):∀(k i:Nat),w.length-i<=k->w.length<i+row.length->z8m w row i=[]:=by
 intro k
 induction k with
 |zero=>intro i h _;exact zjd (by omega)
 |succ k c =>
  intro i d a
  by_cases h:i<w.length
  ·rw[zw1 h (zje b a)];exact c (i+1) (by omega) (by omega)
  ·exact zjd (by omega)
theorem zpy{w row:List ByteArray}(l:0<row.length):∀(k i:Nat),w.length-i<=k->(∀p∈z8m w row i,i<=p/\p+row.length<=w.length)/\(z8m w row i).Pairwise (fun a b=>a+row.length<=b)/\(z8m w row i).length<=w.length-i:=by
 intro k
 induction k with
 |zero =>
  intro i h;rw[zjd (by omega)];exact⟨fun p hp=>(by cases hp),.nil,ZF _⟩
 |succ k m =>
  intro i h
  by_cases j:i<w.length
  ·by_cases e:(w.drop i).take row.length=row
   ·rw[zto j l e];obtain⟨c,d,n⟩:=m (i+row.length) (by omega);have f:i+row.length<=w.length:=by
     rcases Y5 w.length (i+row.length)with g|g
     ·exact(zje l g e).elim
     ·exact g
    refine⟨fun p hp=>?_,.cons (fun p hp=>(c p hp).1) d,by rw[Zq];omega⟩;rcases List.mem_cons.1 hp with rfl|hp
    ·exact⟨Zv _,f⟩
    ·exact⟨by have:=(c p hp).1;omega,(c p hp).2⟩
   ·rw[zw1 j e];obtain⟨c,d,n⟩:=m (i+1) (by omega);exact⟨fun p hp=>⟨by have:=(c p hp).1;omega,(c p hp).2⟩,d,by omega⟩
  ·rw[zjd (by omega)];exact⟨fun p hp=>(by cases hp),.nil,ZF _⟩
def zjf(w:List Wd)(k:Nat)(put:Bool)(new:List ByteArray)(a j:Int)(nth:Int):List Nat->Nat->Nat->Nat->List Wd
 |[],_,o,_=>w.drop o
 |p::q,i,o,m=>if ¬nth=0/\¬nth=(i:Int)+1 then zjf w k put new a j nth q (i+1) o m
  else (w.take p).drop o++(if put=true then (w.take (p+k)).drop p else [])++z1v new a j m++zjf w k put new a j nth q (i+1) (p+k) (m+new.length)
def z49(w:List Wd)(gone:Nat)(new:List ByteArray)(a j:Int):List Nat->Nat->Nat->List Wd
 |[],_,o=>w.drop o
 |p::q,i,o=>(w.take p).drop o++(z1v new a j (i*new.length)++z49 w gone new a j q (i+1) (p+gone))
def z8n(nth:Int)(l:List Nat):List Nat:=if nth=0 then l else if (l.length:Int)<nth then [] else (l.drop (nth-1).toNat).take 1
theorem zw2{w:List Wd}{k:Nat}{put:Bool}{new:List ByteArray}{a j nth:Int}:∀(q:List Nat) (i o m:Nat),¬nth=0->(nth<=i \/ (i:Int)+q.length<nth)->zjf w k put new a j nth q i o m=w.drop o
 |[],i,o,m,_,_=>rfl
 |p::q,i,o,m,b,h=>by
  simp only[Zq]at h;rw[zjf,if_pos ⟨b,by omega⟩];exact zw2 q (i+1) o m b (by omega)
theorem ref_one{w:List Wd}{k:Nat}{put:Bool}{new:List ByteArray}{a j:Int}:∀(q:List Nat) (i n m:Nat) (h:n<q.length),zjf w k put new a j ((i+n:Nat)+1:Int) q i 0 m=(w.take q[n]).drop 0++(if put=true then (w.take (q[n]+k)).drop q[n] else [])++z1v new a j m++w.drop (q[n]+k)
 |p::q,i,0,m,h=>by
  rw[zjf,if_neg (by omega),zw2 q (i+1) (p+k) (m+new.length) (by omega) (.inl (by omega))]
  rfl
 |p::q,i,n+1,m,h=>by
  rw[zjf,if_pos ⟨by omega,by omega⟩,show (((i+(n+1):Nat):Int)+1)=(((i+1)+n:Nat):Int)+1 from by omega];rw[ref_one q (i+1) n m (by simpa using h)]
  rfl
theorem zpz{w:List Wd}{o p k:Nat}(a:o<=p)(b:p+k<=w.length):(w.take p).drop o++(w.take (p+k)).drop p=(w.take (p+k)).drop o:=by
 conv=>rhs;rw[<-Yf (p-o) ((w.take (p+k)).drop o)]
 congr 1
 ·rw[ZV,Yq]
  congr 2
  omega
 ·rw[Yp]
  congr 1
  omega
theorem zq0{w:List Wd}{k:Nat}{new:List ByteArray}{a j:Int}:∀(q:List Nat) (i o:Nat),zjf w k false new a j 0 q i o (i*new.length)=z49 w k new a j q i o
 |[],i,o=>rfl
 |p::q,i,o=>by
  rw[zjf,if_neg (by simp),z49,if_neg (by decide),Zm,<-zq0 q (i+1) (p+k),Zw,show i*new.length+new.length=(i+1)*new.length from by rw[ZO,ZP]]
theorem zq1{w:List Wd}{k:Nat}{new:List ByteArray}{a j:Int}:∀(q:List Nat) (i o:Nat),(∀p∈q,o<=p/\p+k<=w.length)->q.Pairwise (fun a b=>a+k<=b)->zjf w k true new a j 0 q i o (i*new.length)=z49 w 0 new a j (q.map (· + k)) i o
 |[],i,o,_,_=>rfl
 |p::q,i,o,h,c=>by
  rw[Y4]at c;have d:=h p (by simp)
  rw[zjf,if_neg (by simp),Zg,z49,if_pos rfl,zpz d.1 d.2,Zw,show i*new.length+new.length=(i+1)*new.length from by rw[ZO,ZP],
   zq1 q (i+1) (p+k) (fun x e=>⟨c.1 x e,(h x (by simp[e])).2⟩) c.2]
  rfl
theorem ref_fill{w:List Wd}{k:Nat}{put:Bool}{new:List ByteArray}{a j nth:Int}{l:List Nat}(h:0<=nth)(g:¬(l.length:Int)<nth)(hi:∀p∈l,p+k<=w.length)(d:l.Pairwise (fun a b=>a+k<=b)) :
  zjf w k put new a j nth l 0 0 0=if put=true then z49 w 0 new a j ((z8n nth l).map (· + k)) 0 0 else z49 w k new a j (z8n nth l) 0 0:=by
 unfold z8n
 by_cases e:nth=0
 ·subst e;rw[if_pos rfl];cases put with
  |false=>have:=zq0 (w:=w) (k:=k) (new:=new) (a:=a) (j:=j) l 0 0;rw[Y6]at this;rw[this];rfl
  |true=>have:=zq1 (w:=w) (k:=k) (new:=new) (a:=a) (j:=j) l 0 0 (fun p d=>⟨ZF _,hi p d⟩) d;rw[Y6]at this;rw[this];rfl
 ·rw[if_neg e,if_neg g];obtain⟨n,rfl⟩:∃n:Nat,nth=(n:Int)+1:=⟨(nth-1).toNat,by omega⟩
  have c:n<l.length:=by omega
  have f:=ref_one (w:=w) (k:=k) (put:=put) (new:=new) (a:=a) (j:=j) l 0 n 0 c;rw[Yu]at f;rw[f,show ((n:Int)+1-1).toNat=n from by omega,Zk c,Y0,ZW];cases put with
  |false=>simp only[Bool.false_eq_true,if_false,Zm,z49,Y6,Zw]
  |true =>
   simp only[if_true,Zg,Ze,z49,Y6,ZM];rw[zpz (ZF _) (hi _ (Zl c)),Zw]
def txt(w:List Wd):List ByteArray:=w.map (·.text)
def z60(w:List Wd)(x:It)(a i:Int):List Wd :=
 if x.kind=3/\x.old.length=0 then z1v x.new a i 0++w else zjf w x.old.length (decide (x.kind=3)) x.new a i x.nth (z8m (txt w) x.old 0) 0 0 0
def editE(w:List Wd)(x:It)(a i:Int):Int :=
 if x.kind=3/\x.old.length=0 then (if 256<(z60 w x a i).length then 6 else 0) else
 if (z8m (txt w) x.old 0).length=0 \/ ((z8m (txt w) x.old 0).length:Int)<x.nth then 4 else
 if 256<(z60 w x a i).length then 6 else 0
theorem zbt{l:List ByteArray}{a i:Int}{k:Nat}{w:Wd}(h:w∈z1v l a i k):w.text∈l:=by
 have:w.text∈(z1v l a i k).map (·.text):=Y7.2 ⟨w,h,rfl⟩;rwa [zlu]at this
theorem zjg{w:List Wd}{k:Nat}{put:Bool}{new:List ByteArray}{a j nth:Int}:∀(q:List Nat) (i o m:Nat),∀y∈zjf w k put new a j nth q i o m,y∈w \/ y.text∈new
 |[],i,o,m,y,h=>.inl (ZD h)
 |p::q,i,o,m,y,h=>by
  rw[zjf]at h;split at h
  ·exact zjg q (i+1) o m y h
  ·simp only[Yn]at h;rcases h with ((h|h)|h)|h
   ·exact .inl (ZX (ZD h))
   ·split at h
    ·exact .inl (ZX (ZD h))
    ·cases h
   ·exact .inr (zbt h)
   ·exact zjg q (i+1) (p+k) (m+new.length) y h
theorem zyb{w:List Wd}{x:It}{a i:Int}:∀y∈z60 w x a i,y∈w \/ y.text∈x.new:=fun y h=>by
 unfold z60 at h;split at h
 ·rcases Yn.1 h with h|h
  ·exact .inr (zbt h)
  ·exact .inl h
 ·exact zjg _ _ _ _ y h
noncomputable def doA(u:T)(d:EIt):T×Int :=
 if d.it.kind=0 \/ d.it.kind=6 then doR u d else
 if (decide (0<=d.it.kind/\d.it.kind<=6)&&zdx d.it)=false then (u,1) else
 if ¬(z1e u d.it.at_).2=0 then (u,(z1e u d.it.at_).2) else
 if (z1e u d.it.at_).1=u.id then (u,9) else
 if d.it.kind=1 then (z0q (z1e u d.it.at_).1 u,0) else
 if d.it.kind=2 \/ d.it.kind=3 then
  if editE (z07 (z1e u d.it.at_).1 u).1.words d.it d.act d.item=0 then (z10 (z1e u d.it.at_).1 (fun q=>q.setWords (z60 (z07 (z1e u d.it.at_).1 u).1.words d.it d.act d.item)) u,0) else (u,editE (z07 (z1e u d.it.at_).1 u).1.words d.it d.act d.item) else
 if d.it.kind=4 then (z10 (z1e u d.it.at_).1 (fun q=>q.setHead (z1v d.it.new d.act d.item 0)) u,0) else
 if z2u (z07 (z3c (z1e u d.it.at_).1 u).1 u).1.kids (z07 (z1e u d.it.at_).1 u).1.kind d.it.label=true then (u,10) else (z10 (z1e u d.it.at_).1 (fun q=>q.setLabel d.it.label) u,0)
def stE(u:T)(d:EIt):Int :=
 if d.it.kind=0 then z4q u (z3v u d.it).1.1 (z3v u d.it).1.2 (z39 d.act d.item d.it.unit) else if d.it.kind=1 then zdd u (z1e u d.it.at_).1 else if d.it.kind=6 then z7r u (z1e u d.it.at_).1 (z3v u d.it).1.1 (z3v u d.it).1.2 else
 if d.it.kind=5 then znc u (z1e u d.it.at_).1 d.it.label else if d.it.kind=4 then z4o u (z1e u d.it.at_).1 (z1v d.it.new d.act d.item 0) else z4o u (z1e u d.it.at_).1 (z60 (z07 (z1e u d.it.at_).1 u).1.words d.it d.act d.item)
def stT(u:T)(d:EIt):T :=
 if d.it.kind=0 then z10 (z3v u d.it).1.1 (z4u (z3v u d.it).1.2.toNat (z39 d.act d.item d.it.unit)) u else if d.it.kind=1 then z0q (z1e u d.it.at_).1 u else if d.it.kind=6 then z10 (z3v u d.it).1.1 (z4u (z3v u d.it).1.2.toNat (z07 (z1e u d.it.at_).1 u).1) (z0q (z1e u d.it.at_).1 u) else
 if d.it.kind=5 then z10 (z1e u d.it.at_).1 (fun q=>q.setLabel d.it.label) u else if d.it.kind=4 then z10 (z1e u d.it.at_).1 (fun q=>q.setHead (z1v d.it.new d.act d.item 0)) u else z10 (z1e u d.it.at_).1 (fun q=>q.setWords (z60 (z07 (z1e u d.it.at_).1 u).1.words d.it d.act d.item)) u
def zly(u:T)(d:EIt):List Idv :=
 if d.it.kind=0 then (z3v u d.it).1.1::z3i (z3v u d.it).1.1 u else if d.it.kind=1 then z3i (z1e u d.it.at_).1 u else if d.it.kind=6 then z3i (z1e u d.it.at_).1 u++(z3v u d.it).1.1::z3i (z3v u d.it).1.1 u else
 (z1e u d.it.at_).1::z3i (z1e u d.it.at_).1 u
theorem stamp_ids(a i:Int):∀t:T,∀n m:Nat,idsT (z1x a i t n m).1=(Yb n (cntT t)).map fun k:Nat=>(⟨a,i,(k:Int)⟩:Idv):=by
 refine z4a fun t f n m=>?_;rw[z56,z1c];show ⟨a,i,(n:Int)⟩::(za9 (t.kids.map (z1x a i)) (n+1) (m+t.head.length+t.words.length)).1.flatMap idsT=_;have c:∀l:List T,(∀k∈l,∀n m:Nat,idsT (z1x a i k n m).1=(Yb n (cntT k)).map fun k:Nat=>(⟨a,i,(k:Int)⟩:Idv))->∀n m:Nat,(za9 (l.map (z1x a i)) n m).1.flatMap idsT=(Yb n (l.flatMap z0c).length).map fun k:Nat=>(⟨a,i,(k:Int)⟩:Idv):=by
  intro l
  induction l with
  |nil=>intro _ n m;rfl
  |cons k l b =>
   intro h n m;simp only[Zg,za9,Y8,Z6];rw[h k (by simp),b fun k d=>h k (ZJ _ d),zpe,<-Zp]
   congr 1
   have e:=List.range'_append (s:=n) (m:=cntT k) (n:=(l.flatMap z0c).length) (step:=1);rw[ZP]at e;exact e
 rw[c t.kids f,z4f,Yv 1,List.range'_succ]
 rfl
theorem zq2{l:List Wd}(a i:Int)(k:Nat)(h:zdc l=true):zdc (z1v (l.map (·.text)) a i k)=true:=by
 unfold zdc at h⊢;rw[z2f,Zi];simp only[Zh,Zz]at h⊢;refine⟨h.1,fun w c=>?_⟩;obtain⟨v,b,e⟩:=Y7.1 (zbt c);rw[<-e];exact h.2 v b
theorem ztp(a i:Int):∀t:T,z3m t=true->∀n m:Nat,z3m (z1x a i t n m).1=true:=by
 refine z4a fun t B h n m=>?_;rw[z42]at h;simp only[Zh,Zz,decide_eq_true_eq]at h;obtain⟨f,g,p,z⟩:=h;rw[z56];obtain⟨u,r⟩:=z71 a i (fun k s=>z3m k=true->z3m s=true/\z5r s=z5r k) t.kids (fun k c n m A=>⟨B k c A n m,by rw[z56];rfl⟩) (n+1) (m+t.head.length+t.words.length);have c:(zpc a i t (t.kids.map (z1x a i)) n m).1.kids=(za9 (t.kids.map (z1x a i)) (n+1) (m+t.head.length+t.words.length)).1:=rfl;have l:(zpc a i t (t.kids.map (z1x a i)) n m).1.kind=t.kind:=rfl;rw[z42,c,l];generalize (za9 (t.kids.map (z1x a i)) (n+1) (m+t.head.length+t.words.length)).1=L at *;have d:L.map z5r=t.kids.map z5r:=by
  refine List.ext_getElem (by simp[u]) fun j f g=>?_;simp only[Zi]at f g;simp only[Yk];exact(r j g f (p _ (Zl g))).2
 simp only[Zh,Zz,decide_eq_true_eq];refine⟨?_,fun k c=>?_,fun k c=>?_,by rw[d];exact z⟩
 ·unfold z3l at f⊢;simp only[Zh,decide_eq_true_eq]at f⊢;obtain⟨v,w,x,y,e⟩:=f;refine⟨v,by rw[c,u];exact w,zq2 a i m x,zq2 a i _ y,?_⟩;rw[l];split at e
  ·rename_i o;rw[if_pos o];simp only[Zh,decide_eq_true_eq]at e⊢;refine⟨e.1,?_,?_⟩
   ·show (z1v _ _ _ _).length=0;rw[z2f,Zi];exact e.2.1
   ·show (z1v _ _ _ _).length=0;rw[z2f,Zi];exact e.2.2
  ·rename_i o;rw[if_neg o];exact e
 ·obtain⟨j,q,rfl⟩:=Y1 c;have b:j<t.kids.length:=by omega
  have:=(r j b q (p _ (Zl b))).2;rw[show (L[j]).kind=t.kids[j].kind from congrArg Prod.fst this];exact g _ (Zl b)
 ·obtain⟨j,q,rfl⟩:=Y1 c;have b:j<t.kids.length:=by omega
  exact(r j b q (p _ (Zl b))).1
theorem zq3{t:T}(a i:Int)(j:z6y t=true)(f:¬t.kind=0):standsT (z39 a i t)=true:=by
 unfold z6y at j;simp only[Zh,decide_eq_true_eq]at j;obtain⟨l,m,o,_⟩:=j;have b:idsT (z39 a i t)=(Yb 1 (cntT t)).map fun k:Nat=>(⟨a,i,(k:Int)⟩:Idv):=stamp_ids a i t 1 0;have c:Idv.zero∉idsT (z39 a i t):=fun d=>by
  rw[b]at d;obtain⟨k,f,e⟩:=Y7.1 d;have q:=(List.mem_range'_1.1 f).1;have p:(k:Int)=0:=congrArg Idv.n e;omega
 refine(z18 _).2 ⟨ztp a i t l 1 0,?_,?_,?_,⟨fun h=>?_,fun h=>?_⟩,fun d=>c ?_⟩
 ·rw[show depT (z39 a i t)=depT t from zj8 a i t 1 0];exact m
 ·rw[show cntT (z39 a i t)=cntT t from zep a i t 1 0];exact o
 ·rw[b];refine List.Pairwise.map _ (fun x y g e=>g ?_) (List.nodup_range' ..);have p:(x:Int)=(y:Int):=congrArg Idv.n e;omega
 ·exact(c (h ▸ z1b _)).elim
 ·rw[zlv]at h;exact(f h).elim
 ·rw[z1c];exact ZJ _ d
theorem zi7{x:It}(h:zdx x=true):z5u x (x.by_.map zdx)=true:=by
 rw[ztl]at h;unfold mayF at h;simp only[Zh]at h;exact h.2.2
theorem nonroot{u:T}{id:Idv}(e:standsT u=true)(c:¬u.id=id)(d:id∈idsT u):¬(z07 id u).1.kind=0:=by
 obtain⟨_,_,x,_,a,_,_,_,b,_⟩:=z6t e c d;rw[a];exact b
theorem zlz{u:T}{id:Idv}{l:List Wd}(c:standsT u=true)(d:¬u.id=id)(b:id∈idsT u)(e:∀w∈l,z5t w.text=true)(g:l.length<=256):z4o u id l=0:=by
 unfold z4o;have a:oddB l=false:=by
  unfold oddB;rw[List.any_eq_false];intro w f;rw[e w f];simp
 rw[if_neg (by rw[c,a];simp),if_neg (by rw[z1y,decide_eq_true b];simp),if_neg (nonroot c d b),if_neg (by omega)]
theorem words_ok{u:T}{id:Idv}(e:standsT u=true)(c:id∈idsT u):∀w∈(z07 id u).1.words,z5t w.text=true:=by
 have d:=z4r (zea c);have a:=(z8y (zc9 u ((z18 u).1 e).1 _ d)).1;unfold z3l at a;simp only[Zh]at a;have b:=a.2.2.2.1;unfold zdc at b;simp only[Zh,Zz]at b;exact b.2
theorem step_ok{u:T}{d:EIt}(p:standsT u=true)(a:(doA u d).2=0):stE u d=0/\stT u d=(doA u d).1/\(0<=d.it.kind/\d.it.kind<=6)/\zdx d.it=true/\(z1e u d.it.at_).2=0/\(d.it.kind=0 \/ d.it.kind=6->(z3v u d.it).2=0):=by
 have Y:=z1f p
 by_cases hk:d.it.kind=0 \/ d.it.kind=6
 ·unfold doA at a⊢;rw[if_pos hk]at a⊢;have P:decide (0<=d.it.kind/\d.it.kind<=6)=true:=decide_eq_true (by omega);unfold doR at a⊢;rw[P,ZI]at a⊢
  by_cases o:zdx d.it=true
  case neg=>rw[if_pos (by simpa using o)]at a;cases a
  rw[if_neg (by rw[o];decide)]at a⊢
  by_cases j:(z1e u d.it.at_).2=0
  case neg=>rw[if_pos j]at a;exact(j a).elim
  rw[if_neg (by simpa using j)]at a⊢;have c:(z1e u d.it.at_).1∈idsT u:=zew (e:=(z1e u d.it.at_).2) rfl j;have B:=may_wh o hk;rcases hk with hk|hk
  ·rw[if_pos hk]at a⊢;simp only at a⊢;obtain⟨l1,l2,l3⟩:=znk Y c B a;have f:z3v u d.it=((z51 u (z1e u d.it.at_).1 d.it.wh,(zex u (z1e u d.it.at_).1 d.it.wh:Int)),0):=by
    unfold z3v zd6;rw[if_pos hk,zx1 B,if_neg (by simp),if_pos j,l1]
   have b:=zi7 o;unfold z5u at b;rw[if_pos hk]at b;simp only[Zh,Bool.not_eq_true',decide_eq_false_iff_not]at b;have hx:=zq3 d.act d.item b.2.1.1 b.2.2.1;unfold stE stT;rw[if_pos hk,if_pos hk,f];simp only[ZG];unfold zey;rw[if_pos a];refine⟨?_,rfl,⟨by omega,by omega⟩,o,j,fun _=>by first|exact rfl|trivial⟩;unfold z99 at a;split at a
   ·cases a
   split at a
   ·cases a
   rename_i g2;split at a
   ·cases a
   rename_i g3;split at a
   ·cases a
   rename_i g4;split at a
   ·cases a
   rename_i g5;refine zda p hx (by rw[zlv];exact b.2.2.1) l2 (by simpa using g2) l3 (by simpa using g3) (by omega) (by omega) (by omega) fun i hi O=>g5 ?_;rw[ZH];exact⟨i,hi,by rw[z1y,decide_eq_true O]⟩
  ·rw[if_neg (show ¬d.it.kind=0 by omega)]at a⊢
   by_cases I:(z1e u d.it.to).2=0
   case neg=>rw[if_pos I]at a;exact(I a).elim
   rw[if_neg (by simpa using I)]at a⊢;have M:(z1e u d.it.to).1∈idsT u:=zew (e:=(z1e u d.it.to).2) rfl I;simp only at a⊢;obtain⟨U,a2,Z⟩:=zbn p c M a;have f:z3v u d.it=zl6 u (z1e u d.it.at_).1 (z1e u d.it.to).1 d.it.wh:=by
    unfold z3v;rw[if_neg (show ¬d.it.kind=0 by omega),if_neg (by rw[zx1 B];simp[hk]),if_neg (by simpa using j),if_neg (by simpa using I)]
   rw[goes_ok p c M B a]at f;unfold stE stT;rw[if_neg (show ¬d.it.kind=0 by omega),if_neg (show ¬d.it.kind=0 by omega),if_neg (show ¬d.it.kind=1 by omega),if_neg (show ¬d.it.kind=1 by omega),if_pos hk,if_pos hk,f];unfold z57
   by_cases k:(z1e u d.it.to).1=(z1e u d.it.at_).1
   ·rw[if_pos k,if_neg (fun g=>g.2 k)];obtain⟨y,n,x,d1,W,d3,d4,d5,d6,d7,d8,d9,H,a0,a4⟩:=z6t p U c;rw[d1];simp only[ZG];refine⟨zfl p W (zdb _ u y H) U (fun hc=>d9 y hc H) d7,by rw[W];exact d8,⟨by omega,by omega⟩,o,j,fun _=>by first|exact rfl|trivial⟩
   ·rw[if_neg k,if_pos ⟨a,k⟩];obtain⟨c1,c2,c3⟩:=Z k;simp only[ZG];exact⟨c3,by first|exact rfl|trivial,⟨by omega,by omega⟩,o,j,fun _=>by first|exact rfl|trivial⟩
 ·have C:¬d.it.kind=0:=fun h=>hk (.inl h);have J:¬d.it.kind=6:=fun h=>hk (.inr h);unfold doA at a⊢;rw[if_neg hk]at a⊢
  by_cases z:(decide (0<=d.it.kind/\d.it.kind<=6)&&zdx d.it)=true
  case neg=>rw[if_pos (by simpa using z)]at a;cases a
  rw[if_neg (by rw[z];decide)]at a⊢;rw[Zh,decide_eq_true_eq]at z;obtain⟨A,o⟩:=z
  by_cases j:(z1e u d.it.at_).2=0
  case neg=>rw[if_pos j]at a;exact(j a).elim
  rw[if_neg (by simpa using j)]at a⊢;have c:(z1e u d.it.at_).1∈idsT u:=zew (e:=(z1e u d.it.at_).2) rfl j
  by_cases N:(z1e u d.it.at_).1=u.id
  ·rw[if_pos N]at a;cases a
  rw[if_neg N]at a⊢;have t:¬u.id=(z1e u d.it.at_).1:=fun e=>N e.symm;have b:=zi7 o;unfold z5u at b;rw[if_neg C]at b;unfold stE stT;rw[if_neg C,if_neg C];have m:(d.it.kind=0 \/ d.it.kind=6->(z3v u d.it).2=0):=fun h=>(hk h).elim
  by_cases G:d.it.kind=1
  ·rw[if_pos G]at a⊢;rw[if_pos G,if_pos G];refine⟨?_,rfl,A,o,j,m⟩;unfold zdd;rw[if_neg (by rw[p];simp),if_neg (by rw[z1y,decide_eq_true c];simp),if_neg t]
  rw[if_neg G]at a⊢;rw[if_neg G,if_neg G,if_neg J,if_neg J]
  by_cases E:d.it.kind=2 \/ d.it.kind=3
  ·rw[if_pos E]at a⊢;rw[if_neg (show ¬d.it.kind=5 by omega),if_neg (show ¬d.it.kind=5 by omega),if_neg (show ¬d.it.kind=4 by omega),if_neg (show ¬d.it.kind=4 by omega)]
   by_cases k:editE (z07 (z1e u d.it.at_).1 u).1.words d.it d.act d.item=0
   case neg=>rw[if_neg k]at a;exact(k a).elim
   rw[if_pos k];refine⟨zlz p t c (fun w B=>?_) ?_,rfl,A,o,j,m⟩
   ·have K:∀s∈d.it.new,z5t s=true:=by
     have v:zee d.it.new=true:=by
      rcases E with k2|k3
      ·rw[if_pos k2]at b;simp only[Zh]at b;exact b.2.1
      ·rw[if_neg (show ¬d.it.kind=2 by omega),if_pos k3]at b;simp only[Zh]at b;exact b.2.1.1
     unfold zee at v;simp only[Zh,Zz]at v;exact v.2
    rcases zyb w B with h|h
    ·exact words_ok p c w h
    ·exact K _ h
   ·unfold editE at k;split at k
    ·split at k
     ·cases k
     ·omega
    ·split at k
     ·cases k
     ·split at k
      ·cases k
      ·omega
  rw[if_neg E]at a⊢
  by_cases F:d.it.kind=4
  ·rw[if_pos F]at a⊢;rw[if_neg (show ¬d.it.kind=5 by omega),if_neg (show ¬d.it.kind=5 by omega),if_pos F,if_pos F];rw[if_neg (show ¬d.it.kind=2 by omega),if_neg (show ¬d.it.kind=3 by omega),if_pos F]at b;unfold zee at b;simp only[Zh,Zz,decide_eq_true_eq]at b;exact⟨zlz p t c (fun w B=>b.2 _ (zbt B)) (by rw[z2f];exact b.1),rfl,A,o,j,m⟩
  rw[if_neg F]at a⊢;have R:d.it.kind=5:=by omega
  rw[if_pos R,if_pos R];rw[if_neg (show ¬d.it.kind=2 by omega),if_neg (show ¬d.it.kind=3 by omega),if_neg F,if_pos R]at b
  by_cases L:z2u (z07 (z3c (z1e u d.it.at_).1 u).1 u).1.kids (z07 (z1e u d.it.at_).1 u).1.kind d.it.label=true
  ·rw[if_pos L]at a;cases a
  rw[if_neg L];refine⟨?_,by rw[if_neg F],A,o,j,m⟩;unfold znc;rw[if_neg (by rw[p,b];simp),if_neg (by rw[z1y,decide_eq_true c];simp),if_neg (nonroot p t c),if_neg];unfold zdu;obtain⟨q,l,x,r,e1,X,e3,e4,_⟩:=zdw Y t c;rw[Zy]at L;rw[L,Bool.and_false,Bool.or_false,decide_eq_true_eq];intro Q;have:z2u (z07 (z3c (z1e u d.it.at_).1 u).1 u).1.kids (z07 (z1e u d.it.at_).1 u).1.kind d.it.label=true:=by
   rw[e1,X];simp only;rw[e4];unfold z2u;rw[ZH];refine⟨x,by show x∈(l++x::r);simp,?_⟩;rw[X]at Q;simp only at Q;rw[Q];simp
  rw[L]at this;cases this
theorem zdz{u:T}{d:EIt}(h:stE u d=0)(j:0<=d.it.kind/\d.it.kind<=6):standsT (stT u d)=true:=by
 unfold stE at h;unfold stT
 by_cases a:d.it.kind=0
 ·rw[if_pos a]at h⊢;obtain⟨_,_,m,i,_⟩:=z9d h;rw[i]at h⊢;obtain⟨_,_,_,_,_,_,_,_,g,_⟩:=zce h;exact g
 rw[if_neg a]at h⊢
 by_cases b:d.it.kind=1
 ·rw[if_pos b]at h⊢;exact(zxq h).1
 rw[if_neg b]at h⊢
 by_cases f:d.it.kind=6
 ·rw[if_pos f]at h⊢;exact(lrp_moveI h).1
 rw[if_neg f]at h⊢
 by_cases e:d.it.kind=5
 ·rw[if_pos e]at h⊢;exact(lrp_label h).1
 rw[if_neg e]at h⊢
 by_cases c:d.it.kind=4
 ·rw[if_pos c]at h⊢;exact zu5 h
 rw[if_neg c]at h⊢;exact(lrp_words h).1
theorem step_made{u:T}{d:EIt}(c:depT u<=8):(zly u d).length<=(if d.it.kind=6 then 17 else 9):=by
 unfold zly;have a:=zeg (z1e u d.it.at_).1 u;have b:=zeg (z3v u d.it).1.1 u
 repeat' split
 all_goals (first|omega|(simp only[Zq,Z6];omega))
end Tr
end
end
namespace Abs
open Go.RowKit
variable {P:Program}
def hiH(n:Nat)(H:HM):HM:=fun id=>if n<=id then H id else none
theorem hi_get{n id:Nat}{H:HM}(h:n<=id):hiH n H id=H id:=if_pos h
theorem drop_objs{s:RS}{w:World}(h:RH P s w)(d:HM)(f:∀id,d id=s.H id \/ d id=none):RH P { s with H:=d } w:=by
 have x:Later s { s with H:=d }:=⟨Zv _,fun _ _ h=>h,fun id _=>by
  rcases f id with e|e
  ·show objLe (s.H id) (d id) _ _;rw[e];exact objLe.refl _ _
  ·show objLe (s.H id) (d id) _ _;rw[e];unfold objLe;cases s.H id with
   |none=>rfl
   |some o=>cases o<;>exact .inl rfl⟩
 have C:∀k,owned { s with H:=d } k->owned s k:=by
  rintro k ⟨id,n,r,l⟩;rcases f id with e|e
  ·exact⟨id,n,by rw[<-e];exact r,l⟩
  ·exact(r e).elim
 refine⟨fun a u y=>⟨(h.mem a u y).1,fun B=>(h.mem a u y).2 (C _ B)⟩,fun id o c=>?_,fun i j t v p l=>?_,fun g=>rel.later x _ _ (h.glob g)⟩
 ·have c:d id=some o:=c;rcases f id with e|e
  ·rw[e]at c;obtain⟨z,A⟩:=h.obj id o c;exact⟨z,A.mono x fun b _=>rfl⟩
  ·rw[e]at c;cases c
 ·have m:s.H i≠none:=by
   rcases f i with e|e
   ·rw[<-e];exact t
   ·exact(t e).elim
  have q:s.H j≠none:=by
   rcases f j with e|e
   ·rw[<-e];exact v
   ·exact(v e).elim
  exact h.apart i j m q p l
noncomputable def finS(s:RS)(w:World)(n:Nat):RS :=
 {m:=(RS.shut { s with H:=hiH n s.H } w).m,κ:=s.κ,H:=cutH n s.H,nx:=n }
theorem AC_fin{f:FuncId}{ds:List D}{H:HM}{nx k:Nat}{r:D}{Q:HM->Prop}(hr:pureD r=true)(h:AC P f ds H nx fun K y _=>(∃d,z3f P (hiH nx y) k K=some d/\Le d r)/\Q y)
  (hk:∀y,Q y->∀id o,id<nx->y id=some o->H id=some o \/ lowO nx o=true) :
  AC P f ds H nx fun K H2 a1=>K=r/\a1=nx/\∃y,Q y/\H2=cutH nx y:=by
 refine⟨h.1,fun s w vs h1 h2 h3 h4=>(h.2 s w vs h1 h2 h3 h4).mono fun e I ⟨v,K,s',he,⟨⟨d,hd,hle⟩,hK⟩,hstep,hRH,hrel⟩=>?_⟩;subst h1;subst h2;have M:=hk _ hK
 let G:RS:={ s' with H:=hiH s.nx s'.H }
 have Z:Later s' G:=⟨Zv _,fun _ _ h=>h,fun id _=>by
  show objLe (s'.H id) (hiH s.nx s'.H id) _ _;unfold hiH;split
  ·exact objLe.refl _ _
  ·unfold objLe;cases s'.H id with
   |none=>rfl
   |some o=>cases o<;>exact .inl rfl⟩
 have z:RH P G I:=drop_objs hRH _ fun id=>by
  unfold hiH;split
  ·exact .inl rfl
  ·exact .inr rfl
 obtain⟨N,a2⟩:=zd8 z;have F:rel G K v:=rel.later Z _ _ hrel;have U:rel (G.shut I) d v:=zgq z k K v d F hd;have a0:rel (G.shut I) r v:=hle _ _ U
 let l:RS:=finS s' I s.nx
 have E:∀a u,s'.m a=some u->l.m a=some u:=fun a u hm=>N.mem a u hm;have J:∀id,id<s.nx->l.H id=s'.H id/\l.κ id=s'.κ id:=fun id b=>⟨if_pos b,rfl⟩
 have B:∀k,owned l k->∃id,id<s.nx/\s'.H id≠none/\blockOf (s'.κ id)=some k:=fun k ⟨id,b,c,t⟩=>by
  have b:id<s.nx:=b;rw[(J id b).1]at c;exact⟨id,b,c,t⟩
 have q:∀k,owned l k->owned s' k:=fun k Y=>by
  obtain⟨id,b,c,t⟩:=B k Y;exact⟨id,Nat.lt_of_lt_of_le b hstep.nx,c,t⟩
 -- memory: what was read,and the objects of the callee's own
 have A:∀a u,l.m a=some u->(s'.m a=some u) \/ (I.cell? a=some u/\∃id,s.nx<=id/\s'.H id≠none/\blockOf (s'.κ id)=some a.block):=by
  intro a u x;have x:(G.shut I).m a=some u:=x;simp only[RS.shut]at x;split at x
  ·rename_i p;obtain⟨id,b,c,t⟩:=p;have c:hiH s.nx s'.H id≠none:=c;unfold hiH at c;split at c
   ·rename_i C;exact .inr ⟨x,id,C,c,t⟩
   ·exact(c rfl).elim
  ·exact .inl x
 have L:∀(d:D) (v:Value),lowD s.nx d=true->rel s' d v->rel l d v:=znh (s:=s') (s':=l) E (Zv _) J;refine⟨v,r,l,he,⟨rfl,rfl,s'.H,hK,rfl⟩,?_,?_,z2h (s:=G.shut I) (s':=l) (fun _ _ h=>h) _ _ hr a0⟩
 ·refine⟨hstep.os,hstep.tape,hstep.output,hstep.size,Zv _,fun a u hm=>E a u (hstep.mem a u hm),fun a u x=>?_,fun id b=>by rw[(J id b).1];exact hstep.objs id b,hstep.keep,fun k X=>hstep.own k (q k X)⟩;rcases A a u x with c|⟨_,id,C,t,R⟩
  ·exact hstep.new a u c
  ·rcases hstep.own a.block ⟨id,hRH.fresh t,t,R⟩with h8|h8
   ·exact .inr (.inr h8)
   ·exact .inr (.inl h8)
 ·refine⟨fun a u x=>?_,fun id o p=>?_,fun i j O hj W hb=>?_,fun g=>?_⟩
  ·rcases A a u x with c|⟨c,id,C,t,R⟩
   ·exact⟨(hRH.mem a u c).1,fun p=>(hRH.mem a u c).2 (q _ p)⟩
   ·refine⟨c,fun p=>?_⟩;obtain⟨j,hj,h8,h9⟩:=B _ p;exact hRH.apart j id h8 t (by omega) (by rw[h9];simp) (by rw[h9,R])
  ·have b:id<s.nx:=by
    rcases Y5 id s.nx with h9|h9
    ·exact h9
    ·have:l.H id=none:=if_neg (by omega);rw[this]at p;cases p
   rw[(J id b).1]at p;refine⟨b,zpv (s:=s') (s':=l) (n:=s.nx) E (Zv _) J ?_ (hRH.obj id o p).2⟩;rcases M id o b p with h9|h9
   ·exact zpu (s:=s) (h3.obj id o h9).2
   ·exact h9
  ·have lt:∀i,l.H i≠none->i<s.nx/\s'.H i≠none:=fun i O=>by
    rcases Y5 i s.nx with h9|h9
    ·exact⟨h9,by rw[<-(J i h9).1];exact O⟩
    ·exact(O (if_neg (by omega))).elim
   exact hRH.apart i j (lt i O).2 (lt j hj).2 W hb
  ·exact L _ _ (zcy _ _ (z8d g)) (hRH.glob g)
theorem RC_fin{f:FuncId}{ds:List D}{H:HM}{nx k:Nat}{r:D}(p:pureD r=true)
  (h:AC P f ds H nx fun q a _=>(∃d,z3f P (hiH nx a) k q=some d/\Le d r)/\∀id,id<nx->a id=H id):RC P f ds H nx r:=by
 have l:=AC_fin p h (fun a c id o b n=>.inl (by rw[<-c id b];exact n));refine⟨l.1,fun s w t g i j m=>(l.2 s w t g i j m).mono fun e u ⟨v,r1,s1,he,⟨hr',hnx,a,c,hcut⟩,hstep,hRH,hrel⟩=>⟨v,r1,s1,he,⟨hr',?_,hnx⟩,hstep,hRH,hrel⟩⟩;subst g;subst i;rw[hcut];exact znj j c
theorem cut_upd{s:RS}{w:World}(c:RH P s w){b:HM}{i:Nat}{o':HObj}(hi:i<s.nx)(g:b i=some o')(f:∀id,id<s.nx->id≠i->b id=s.H id):cutH s.nx b=z0m s.H i (some o'):=by
 funext id
 unfold cutH z0m
 by_cases e:id=i
 ·subst e;rw[if_pos hi,if_pos rfl];exact g
 ·rw[if_neg e];split
  ·rename_i a;exact f id a e
  ·rename_i a;cases d:s.H id with
   |none=>rfl
   |some o=>have:=(c.obj id o d).1;omega
theorem TC_fin{f:FuncId}{ds:List D}{k i:Nat}{r:D}{o o':HObj}(x:pureD r=true)(u:∀n,i<n->lowO n o'=true)
  (h:∀H a,i<a->H i=some o->AC P f ds H a fun y b _=>(∃d,z3f P (hiH a b) k y=some d/\Le d r)/\(b i=some o'/\∀id,id<a->id≠i->b id=H id)):TC P f ds i o o' r:=by
 intro H a c t
 have p:=AC_fin x (h H a c t) (fun b ⟨g,hk⟩ id o1 hid ho2=>by
  by_cases e:id=i
  ·subst e;rw[g]at ho2;cases ho2;exact .inr (u _ c)
  ·exact .inl (by rw[<-hk id hid e];exact ho2))
 refine⟨p.1,fun s w z j l m q=>(p.2 s w z j l m q).mono fun e A ⟨v,r1,s1,he,⟨hr',hnx,b,⟨g,hk⟩,hcut⟩,hstep,hRH,hrel⟩=>⟨v,r1,s1,he,⟨hr',?_,hnx⟩,hstep,hRH,hrel⟩⟩;subst j;subst l;rw[hcut];exact cut_upd m c g hk
theorem zvn{nx:Nat}(h:3<nx+1):(nx==nx+1)=false/\(nx==nx+2)=false/\(nx==nx+3)=false/\(nx+1==nx)=false/\(nx+2==nx)=false/\(nx+3==nx)=false/\(nx+1==nx+2)=false/\(nx+2==nx+1)=false/\(nx+1==nx+3)=false/\(nx+3==nx+1)=false/\(nx+2==nx+3)=false/\(nx+3==nx+2)=false /\
  (2==nx)=false/\(nx==2)=false/\(1==nx)=false/\(nx==1)=false/\(0==nx)=false/\(nx==0)=false:=by
 have c:∀a b:Nat,¬a=b->(a==b)=false:=fun a b h=>by simpa using h
 exact⟨c _ _ (by omega),c _ _ (by omega),c _ _ (by omega),c _ _ (by omega),c _ _ (by omega),c _ _ (by omega),c _ _ (by omega),c _ _ (by omega),c _ _ (by omega),c _ _ (by omega),c _ _ (by omega),c _ _ (by omega),c _ _ (by omega),c _ _ (by omega),c _ _ (by omega),c _ _ (by omega),c _ _ (by omega),c _ _ (by omega)⟩
end Abs
namespace Abs
open Go.RowKit
variable {P:Program}
theorem z69{k nx:Nat}(h:k<nx):(nx==nx+1)=false/\(nx==nx+2)=false/\(nx==nx+3)=false/\(nx+1==nx)=false/\(nx+2==nx)=false/\(nx+3==nx)=false/\(nx+1==nx+2)=false/\(nx+2==nx+1)=false/\(nx+1==nx+3)=false/\(nx+3==nx+1)=false/\(nx+2==nx+3)=false/\(nx+3==nx+2)=false /\
  (k==nx)=false/\(nx==k)=false/\(k==nx+1)=false/\(nx+1==k)=false/\(k==nx+2)=false/\(nx+2==k)=false/\(k==nx+3)=false/\(nx+3==k)=false:=by
 have c:∀a b:Nat,¬a=b->(a==b)=false:=fun a b h=>by simpa using h
 exact⟨c _ _ (by omega),c _ _ (by omega),c _ _ (by omega),c _ _ (by omega),c _ _ (by omega),c _ _ (by omega),c _ _ (by omega),c _ _ (by omega),c _ _ (by omega),c _ _ (by omega),c _ _ (by omega),c _ _ (by omega),c _ _ (by omega),c _ _ (by omega),c _ _ (by omega),c _ _ (by omega),c _ _ (by omega),c _ _ (by omega),c _ _ (by omega),c _ _ (by omega)⟩
end Abs
namespace Abs
open Go.RowKit
variable {P:Program}
def Sem(P:Program)(N:Nat)(c:Code)(Q:Exit->St->Prop)(st:St):Prop :=
 ∀b d s a w,Fr P N st s a w->Step b d s w->c.wp P (zwu P N b d Q) a w
theorem Sem.walk{N:Nat}{own:List Nat}{c:Code}{Q:Exit->St->Prop}{st:St}(e:P.follows .mixedOrders=true)(b:z9z N c=true)(h:awp P own c Q st):Sem P N c Q st :=
 fun _ _ s a w d f=>z7j e c Q st s a w b h d f
theorem Sem.seq{N:Nat}{x y:Code}{Q:Exit->St->Prop}{st:St}(h:Sem P N x (zo8 (fun st=>Sem P N y Q st) Q) st):Sem P N (.seq x y) Q st:=by
 intro s0 w0 s a w hf hs;refine wp_seq (wp_mono (h s0 w0 s a w hf hs) ?_);rintro e a' w' ⟨st',s',hq,hf',hs'⟩;cases e with
 |normal=>exact hq s0 w0 s' a' w' hf' hs'
 |exit id=>exact⟨st',s',hq,hf',hs'⟩
 |goto l=>exact⟨st',s',hq,hf',hs'⟩
 |ret=>exact⟨st',s',hq,hf',hs'⟩
 |panic ch=>exact⟨st',s',hq,hf',hs'⟩
 |outgrown=>exact⟨st',s',hq,hf',hs'⟩
theorem Sem.cond{N:Nat}{c:Operand}{x y:Code}{Q:Exit->St->Prop}{st:St}(t:Bool)(l:st.ev c=.bool t)(j:t=true->Sem P N x Q st)(k:t=false->Sem P N y Q st):Sem P N (.cond c x y) Q st:=by
 intro h i s a w b f;have d:=b.ev c;rw[l]at d;simp only[rel]at d;exact wp_cond_split d (fun e=>j e h i s a w b f) (fun e=>k e h i s a w b f)
theorem Sem.seal{N:Nat}{c:Code}{Q:Exit->St->Prop}{st:St}(b:St)(j:SealTo P st b)(h:Sem P N c Q b):Sem P N c Q st:=by
 intro l m s a w i f;obtain⟨k,d,e⟩:=j N s a w i;exact h l m k a w d (f.trans e)
theorem z8f{f:FuncId}{b:Func}{c:Code}(E:P.funcs[f]?=some b)(C:b.body=some c)(j:(b.name == "runtime.NumGoroutine")=false)
  {ds:List D}{H:HM}{nx:Nat}{K:D->HM->Nat->Prop}(L:ds.length<=b.ntmps) (h:Sem P b.ntmps c (retQ P b.results.toList K) (st0 ds H nx)):AC P f ds H nx K:=by
 refine⟨⟨b,E,j,by rw[C];rfl⟩,fun s w q I A y m=>?_⟩;have F:=z0j m;refine calls_of_wp E C ?_;have z:Fr P b.ntmps (st0 ds H nx) s { tmps:=q.toArray++Array.replicate (b.ntmps-q.toArray.size) undef,defers:=[] } w:=by
  refine⟨I,A,by simp;omega,rfl,fun i=>?_,y⟩;simp only[st0];cases J:ds[i]? with
  |none=>simp[rel]
  |some d =>
   obtain⟨v,B,o⟩:=z38 m i d J;have M:i<q.length:=by
    rcases Y5 i q.length with h|h
    ·exact h
    ·rw[List.getElem?_eq_none h]at B;cases B
   simp only[Array.getD_eq_getD_getElem?,Yl];rw[Array.getElem?_append_left (by simpa using M)];simp only[List.getElem?_toArray,B,Yl];exact o
 refine wp_mono (h s w s _ w z (Step.refl s w)) ?_;rintro e O R ⟨N,G,k,a,p⟩;cases e with
 |normal =>
  obtain⟨r,m,x⟩:=k;obtain⟨v,t,u⟩:=z83 a m;exact⟨a.defers,v,t,v,r,G,rfl,by rw[a.H,a.nx];exact x,p,a.heap,u⟩
 |ret =>
  obtain⟨r,m,x⟩:=k;obtain⟨v,t,u⟩:=z83 a m;exact⟨a.defers,v,t,v,r,G,rfl,by rw[a.H,a.nx];exact x,p,a.heap,u⟩
 |exit id=>exact k.elim
 |goto l=>exact k.elim
 |panic Q=>exact k.elim
 |outgrown=>exact k.elim
section
variable {st:St}{dst:Option Nat}{n:FuncId}{cap args:List D}{g:List Oper->(St->Prop)->St->Prop}{rest:List Oper}{K:St->Prop}
end
end Abs
namespace Abs
open Go.RowKit
variable {P:Program}
end Abs
namespace Abs
open Go.RowKit
variable {P:Program}
theorem Sem.block{N id:Nat}{c:Code}{Q:Exit->St->Prop}{st:St}(h:Sem P N c (zuj id Q) st):Sem P N (.block id c) Q st:=by
 intro s0 w0 s a w hf hs;refine wp_block (wp_mono (h s0 w0 s a w hf hs) ?_);rintro e a' w' ⟨st',s',hq,hf',hs'⟩;cases e with
 |exit id' =>
  simp only[zuj]at hq;simp only[Exit.inBlock];split
  ·rename_i he;rw[if_pos he]at hq;exact⟨st',s',hq,hf',hs'⟩
  ·rename_i he;rw[if_neg he]at hq;exact⟨st',s',hq,hf',hs'⟩
 |normal=>exact⟨st',s',hq,hf',hs'⟩
 |goto l=>exact⟨st',s',hq,hf',hs'⟩
 |ret=>exact⟨st',s',hq,hf',hs'⟩
 |panic ch=>exact⟨st',s',hq,hf',hs'⟩
 |outgrown=>exact⟨st',s',hq,hf',hs'⟩
theorem Sem.mono{N:Nat}{c:Code}{Q f:Exit->St->Prop}{st:St}(h:Sem P N c Q st)(i:∀e st,Q e st->f e st):Sem P N c f st:=fun k l s a w g j =>
 wp_mono (h k l s a w g j) fun _ _ _ ⟨d,s',h1,h2,h3⟩=>⟨d,s',i _ _ h1,h2,h3⟩
theorem ze4{N:Nat}{own:List Nat}{j:Array Oper}{K:St->Prop}{Q:Exit->Act->World->Prop}{r:List Oper}:∀(l:List Oper) (st:St) (s:RS) (a:Act) (w:World),
  (∀o∈l,z6o N o=true)->z2y P own (zrl j) l K st->Fr P N st s a w ->
  (∀f q n m,K f->Fr P N f q n m->Step s w q m->wpList P j Q r n m)->wpList P j Q (l++r) a w
 |[],st,s,a,w,_,h,k,p=>p st s a w h k (Step.refl s w)
 |o::d,st,s,a,w,g,h,k,p=>by
  have B:=g o (by simp);have c:∀z∈d,z6o N z=true:=fun z E=>g z (ZJ _ E);simp only[z2y]at h;rw[List.cons_append];unfold wpList;rw[zc2]at h;split at h
  ·rename_i y;rw[if_pos (z3n k y)]
   exact .inl (zc1 k B h fun f q n m F u i =>
    ze4 d f q n m c F u fun A G C H t v e=>p A G C H t v (i.trans e))
  ·rename_i y;rw[if_neg (by rw[z3n k y];simp)];exact ze4 d _ s _ w c h (k.put0 B zc0) p
  ·cases h
theorem zyn{N:Nat}{e:Array Oper}{Q:Exit->Act->World->Prop}{c:List Oper}{o:Oper}{st:St}{s:RS}{a:Act}{w w':World}{v:Value}(f:Fr P N st s a w)(h:o.guard=none)
  (d:(execOp a.eval o).run P w=.ok (.value v) w') (i:wpList P e Q c (a.put o.dst v) w'):wpList P e Q (o::c) a w:=by
 unfold wpList;rw[if_pos (z3n f (g:=true) (by unfold z9x;rw[h]))];refine .inl ?_;unfold Oper.wp;rw[d,Oper.upon_value];exact i
section
variable {N:Nat}{own:List Nat}{i0 b i1 b1 i4:Nat}{ops0 ops1 ops4:Array Oper}{pre:List Oper}{t7 t8 t9 t10:Nat}{T:TypeId}{x:Operand}{rest4:List Oper}{body:Code}{Q:Exit->St->Prop}{st:St}
end
end Abs
namespace Abs
open Go.RowKit
variable {P:Program}
theorem zq6{w:World}{N sT ty e:TypeId}{sz n m:Nat}{v u:Value}{xs f:List Value}(E:P.underlying N=some (.slice e))(O:(P.info? e).map (·.size)=some sz)(Y:w.ownsRow 0 e sz v n xs)(C:m<=n)(Q:z7a f)(b:f.length=m*sz)
  (p:(u=.slice none 0 0/\m=0) \/ ∃a c,u=.slice (some a) m c/\∀j x,f[j]?=some x->w.cell? (a.add j)=some x) :
  ∃s,(Builtin.copy_ #[N,sT] ty #[v,u]).run P w=.ok (goInt m) s/\s.ownsRow 0 e sz v n (f++xs.drop (m*sz))/\s.os=w.os/\s.tape=w.tape/\s.output=w.output/\s.heap.size=w.heap.size/\∀k,some k≠blockOf v->s.heap[k]?=w.heap[k]?:=by
 cases t:P.info? e with
 |none=>simp[t]at O
 |some i =>
  have W:i.size=sz:=by simpa [t] using O
  obtain⟨B,z⟩:=Y;have Z:∀ {k:Nat},k*0=0:=fun {k}=>Nat.mul_zero k;rcases z with ⟨rfl,rfl⟩|⟨g,cap,d,rfl,R,H,K,F,G,L⟩
  ·obtain rfl:m=0:=by omega
   have r:f=[]:=Zr (by rw[b];simp);have M:xs=[]:=Zr (by rw[B];simp);subst r M;refine⟨w,?_,⟨by simp,.inl ⟨rfl,rfl⟩⟩,rfl,rfl,rfl,rfl,fun _ _=>rfl⟩;rcases p with ⟨rfl,_⟩|⟨a,c,rfl,_⟩
   ·simp[Builtin.copy_,run_underlying E,Builtin.lenOf,Builtin.firstCells,sizeOf,typeInfo,t]
   ·have I:=run_loadCells_list (P:=P) w a [] (fun j x h=>by simp at h);have J:(loadCells a 0).run P w=.ok #[] w:=by simpa using I
    simp[Builtin.copy_,run_underlying E,Builtin.lenOf,Builtin.firstCells,sizeOf,typeInfo,t,J]
  ·have o:f.length<=d.size:=by
    rw[b,G];exact ZK _ (by omega)
   have q:=run_storeCells_at P g 0 e f 0 d w H (by simpa using o) Q;simp only[ZM,Yu,ZW,ZL]at q;have y:Nat.min m n=m:=ZT C;refine⟨w.setRow g (f++d.toList.drop f.length).toArray,?_,⟨?_,.inr ⟨g,cap,(f++d.toList.drop f.length).toArray,rfl,R,setRow_heap w g d _ e (0,0) H,K,F,?_,?_⟩⟩,rfl,rfl,rfl,by simp,fun k X=>setRow_other w g k _ (fun e=>X (by rw[e];rfl))⟩
   ·rcases p with ⟨rfl,rfl⟩|⟨a,c,rfl,U⟩
    ·have r:f=[]:=Zr (by rw[b];simp);subst r;have l:w.setRow g ([]++d.toList.drop ([]:List Value).length).toArray=w:=by
      simp only[Zx,ZN,ZL,Array.toArray_toList];have:=setRow_self w g d e (0,0) H;exact this
     rw[l];have A:(storeCells ⟨g,0,none⟩ []).run P w=.ok () w:=by
      have h:=q;rw[l]at h;exact h
     simp[Builtin.copy_,run_underlying E,Builtin.lenOf,Builtin.firstCells,sizeOf,typeInfo,t,A]
    ·have I:=run_loadCells_list (P:=P) w a f U;simp[Builtin.copy_,run_underlying E,Builtin.lenOf,Builtin.firstCells,sizeOf,typeInfo,t,W,y,<-b,I,q]
   ·rw[Z6,Zd,B,b];have:=ZK sz C;omega
   ·simp only[List.size_toArray,Z6,Zd,Array.length_toList];omega
   ·rw[b]at o⊢;rw[List.take_append,b,Zc (by rw[b];exact ZK _ C),ZV,<-L];have:=ZK sz C
    congr 2
    congr 1
    omega
theorem Sem.copyRow{N:Nat}{own:List Nat}{i0:Nat}{ops0:Array Oper}{pre:List Oper}{oc:Oper}{dT sT e:TypeId}{x y:Operand}{Q:Exit->St->Prop}{st:St}(hc:oc.op=.call { callee:=.builtin .copy,args := #[x,y],argTypes := #[dT,sT] }/\oc.guard=none)
  (h0:ops0.toList=pre++[oc]) (hT:P.underlying dT=some (.slice e)) (hs:(P.info? e).map (·.size)=some (z0d P e)) (hz:0<z0d P e) (hd:∀o∈pre,z6o N o=true) (hd1:z6o N oc=true)
  (hpre:z2y P own (zrl ops0) pre (fun st1=>∃id n cs m news,st1.ev x=.osl id n/\st1.H id=some (.row e n cs)/\z7b st1.H e (z0d P e) (st1.ev y)=some (m,news)/\m<=n /\
   Q .normal ((st1.withH (z0m st1.H id (some (.row e n (news++cs.drop (m*z0d P e))))) st1.nx).put oc.dst (.int .i64 m))) st):Sem P N (.region i0 ops0 false) Q st:=by
 intro s0 w0 s a w hf hstep;refine wp_region_list ?_;rw[h0];refine ze4 pre st s a w hd hpre hf fun st1 s1 a1 w1 ⟨id,n,cs,m,news,hx,hH,hsrc,hmn,hQ⟩ hf1 hs1=>?_;have hHs:s1.H id=some (.row e n cs):=by rw[hf1.H];exact hH
 obtain⟨xs,ho,hrv,hov,hcl,_⟩:=z3w hf1.heap hHs;have hxv:=hf1.ev x;rw[hx]at hxv;simp only[rel]at hxv;have hxv:=(hxv.2.2 _ _ _ hHs).2 rfl;have hyv:=hf1.ev y;rw[<-hf1.H]at hsrc;have hso:=z54 hf1.heap (e:=e) (n:=z0d P e) (m:=m) (news:=news) hz rfl hsrc hyv;obtain⟨ws,hrw,how,hwl,hso2⟩:∃ws,relAll s1 news ws/\z7a ws/\ws.length=m*z0d P e/\((a1.eval y=.slice none 0 0/\m=0) \/ ∃b c,a1.eval y=.slice (some b) m c/\∀j q,ws[j]?=some q->w1.cell? (b.add j)=some q):=by
  rcases hso with ⟨h1,h2,h3⟩|⟨b,c,ws,h1,h2,h3,h4,h5⟩
  ·subst h3;exact⟨[],z15,fun _ h=>by simp at h,by simp[h2],.inl ⟨h1,h2⟩⟩
  ·exact⟨ws,h2,h3,h4,.inr ⟨b,c,h1,h5⟩⟩
 obtain⟨w2,hrun,hown,k1,k2,k3,k4,k5⟩:=zq6 (P:=P) (sT:=sT) (ty:=oc.type) hT hs ho hmn how hwl hso2;have hrun2:(execOp a1.eval oc).run P w1=.ok (.value (goInt m)) w2:=by
  unfold execOp;simp only[hc.1,resolve,invoke,builtin,Sem.run_bind,Sem.run_pure,Result.andThen_ok,List.map_toArray,Zg,Ze,hxv,hrun]
 have hob:=z55 ho
 obtain⟨g1,g2⟩:=z90 (w':=w2) hf1.heap id (.row e n cs) (.row e n (news++cs.drop (m*z0d P e))) (s1.κ id) hHs k1 k2 k3 (by omega) (fun k _ hne=>k5 k hne)
  (.inr ⟨n,_,rfl,Zv _,fun h=>by first|exact h|rfl|omega⟩) (fun b hb=>.inl hb)
  (fun hl=>⟨ws++xs.drop (m*z0d P e),hown,relAll.later hl _ _ (z17 hrw (z6b _ hrv)),z32 how (za8 hov _)⟩)
 have hs':s1.set id (s1.κ id) (.row e n (news++cs.drop (m*z0d P e)))=s1.set id (s1.κ id) (.row e n (news++cs.drop (m*z0d P e))):=rfl;refine zyn hf1 hc.2 hrun2 ?_;unfold wpList;have hf2:=hf1.put g1.later g2 hd1 (d:=.int .i64 m) (v:=goInt m) (by simp[rel,goInt]) (H:=z0m st1.H id (some (.row e n (news++cs.drop (m*z0d P e))))) (nx:=st1.nx) (by rw[<-hf1.H];rfl) (by rw[<-hf1.nx];rfl);exact⟨_,_,hQ,hf2,hstep.trans (hs1.trans g1)⟩
theorem Sem.copyL{N:Nat}{own:List Nat}{u:Nat}{b:List Oper}{d:Oper}{i sT e:TypeId}{x y:Operand}{Q:Exit->St->Prop}{st:St}(k:Nat)(l:b.drop k=[d])(q:d.op=.call { callee:=.builtin .copy,args := #[x,y],argTypes := #[i,sT] }/\d.guard=none)
  (p:P.underlying i=some (.slice e)) (s:(P.info? e).map (·.size)=some (z0d P e)) (t:0<z0d P e) (g:(b.all (z6o N))=true)
  (f:z2y P own (b.map (·.dst)) (b.take k) (fun a=>∃id n h m c,a.ev x=.osl id n/\a.H id=some (.row e n h)/\z7b a.H e (z0d P e) (a.ev y)=some (m,c)/\m<=n /\
   Q .normal ((a.withH (z0m a.H id (some (.row e n (c++h.drop (m*z0d P e))))) a.nx).put d.dst (.int .i64 m))) st):Sem P N (.region u b.toArray false) Q st:=by
 simp only[Zz]at g;have j:b=b.take k++[d]:=by rw[<-l,Yf]
 refine Sem.copyRow (pre:=b.take k) q j p s t (fun o r=>g o (ZX r)) (g d (by rw[j];simp)) f
end Abs
section
open _root_.Go.Proofs.Tryz
section
open Abs Facts Tr
attribute [local irreducible] awp
set_option maxRecDepth 100000
def z43(l:List Nat):D:=.rsl false 1 (l.map fun n:Nat=>D.int .i64 n)
theorem z8c(l:List Nat):pureD (z43 l)=true:=z0x (f:=fun n:Nat=>D.int .i64 n) (fun _=>rfl) l
theorem zo9(l:List ByteArray)(A:l.length<=1000000)(a i:Int)(k:Nat)(z:k<=1000000000000):PC prog 48 [z1n l,.int .i64 a,.int .i64 i,.int .i64 k] (z0f (z1v l a i k)):=by
 refine z14 2 (by simp only[pureD.pureL,z1q,pureD,Z3]) (z0g _) (zqzj [9] func48 rfl (by decide+kernel) rfl ?_)
 repeat'(first|refine nxt ?_|((refine zqh fun K d=>?_);simp(disch:=omega)only[go_sem,Z0,↓reduceIte,z1n])|(refine d _ ?_;clear d K))
 (refine zqL (fun q c=>∃(j:_),q=l.length-j/\c.t 1=.int .i64 a/\c.t 2=.int .i64 i/\c.t 3=.int .i64 k/\c.t 9=.osl 0 j/\c.t 12=z1n l/\c.t 13=.int .i64 l.length/\c.t 14=.int .i64 j/\c.H 0=some (.row 122 j ((z1v (l.take j) a i k).flatMap z1p))/\(j<=l.length)/\(1<=c.nx)) ?_ ?_);rintro q c ⟨j,rfl,r,s,u,p,g,e,f,b,x,y⟩;rotate_left
 ·(refine⟨_,0,rfl,?_⟩);simp(disch:=omega)only[go_sem,Z0,Z1,true_and,and_true,and_self,Zn,z1n]
  try simp[z1v]
 by_cases v:j<l.length
 ·have o:z1v (l.take (j+1)) a i k=z1v (l.take j) a i k++[⟨l[j],⟨a,i,((k+j:Nat):Int)⟩⟩]:=by
   rw[Zo v,zg6,Zf,ZT (by omega)]
  have w:IntKind.i64.wrap ((k:Int)+j)=((k+j:Nat):Int):=by rw[zad (by omega)];omega
  repeat'(first|((first|refine zqh fun K d=>?_|refine zqr fun K d=>?_);simp(disch:=omega)only[go_sem,Z0,↓reduceIte,reduceCtorEq,Z2,Y2,Z1,r,s,u,p,g,e,f,b,z1n,w])|(refine zqd _ rfl ?_ ?_<;>intro h<;>(((try simp only[z05]at h);try omega)))|refine nxt ?_|(refine d _ ?_;clear d K))
  (refine⟨_,?_,j+1,rfl,?_⟩);rotate_left;simp(disch:=omega)only[go_sem,Z0,r,s,u,p,g,e,f,b,true_and,Z7,Za,Zj,Y8,ZE,Zm,o,z1p];rotate_left
  ·omega
  ·omega
 ·repeat'(first|((refine zqh fun K d=>?_);simp(disch:=omega)only[go_sem,Z0,↓reduceIte,p,e,f])|(refine zqd _ rfl ?_ ?_<;>intro h<;>(((try simp only[z05]at h);try omega)))|refine nxt ?_|refine zqz ?_|refine zqU ?_|(refine d _ ?_;clear d K))
  have m:j=l.length:=by omega
  subst m;rw[ZA]at b;have n:l.length=(z1v l a i k).length:=(z2f l a i k).symm;rw[n]at b⊢;exact z3j (z2b (l:=z1v l a i k) 0 b z64 z7d (fun _=>rfl) (fun _=>rfl))
theorem zmp(l:List Wd)(r:l.length<=1000000):PC prog 194 [z0f l] (z1n (txt l)):=by
 refine z14 2 (by simp only[pureD.pureL,z0g,Z3]) (z1q _) (zqzj [3] func194 rfl (by decide+kernel) rfl ?_)
 repeat'(first|refine nxt ?_|((refine zqh fun K b=>?_);simp(disch:=omega)only[go_sem,Z0,↓reduceIte,z0f])|(refine b _ ?_;clear b K))
 (refine zqL (fun m c=>∃(j:_),m=l.length-j/\c.t 3=.osl 0 j/\c.t 6=z0f l/\c.t 7=.int .i64 l.length/\c.t 8=.int .i64 j/\c.H 0=some (.row 9 j ((txt (l.take j)).map D.str))/\(j<=l.length)/\(1<=c.nx)) ?_ ?_);rintro m c ⟨j,rfl,h,n,i,k,a,p,q⟩;rotate_left
 ·(refine⟨_,0,rfl,?_⟩);simp(disch:=omega)only[go_sem,Z0,Z1,and_self,Zn,Ze,z0f,txt]
 by_cases o:j<l.length
 ·have g:txt (l.take (j+1))=txt (l.take j)++[l[j].text]:=by unfold txt;rw[Zo o,Zp];rfl
  repeat'(first|((first|refine zqh fun K b=>?_|refine zqr fun K b=>?_);simp(disch:=omega)only[go_sem,Z0,↓reduceIte,reduceCtorEq,Z2,Z1,Zb,h,n,i,k,a,z0f])|(refine zqd _ rfl ?_ ?_<;>intro d<;>(((try simp only[z05]at d);try omega)))|refine nxt ?_|(refine b _ ?_;clear b K))
  (refine⟨_,?_,j+1,rfl,?_⟩);rotate_left;simp(disch:=omega)only[go_sem,Z0,Z1,h,n,i,k,a,true_and,and_true,Z7,Za,Zp,Zg,Ze,g];rotate_left
  ·omega
  ·omega
 ·repeat'(first|((refine zqh fun K b=>?_);simp(disch:=omega)only[go_sem,Z0,↓reduceIte,h,i,k])|(refine zqd _ rfl ?_ ?_<;>intro d<;>(((try simp only[z05]at d);try omega)))|refine nxt ?_|refine zqz ?_|refine zqU ?_|(refine b _ ?_;clear b K))
  have e:j=l.length:=by omega
  subst e;rw[ZA]at a;have f:l.length=(txt l).length:=by unfold txt;rw[Zi]
  rw[f]at a⊢;exact z3j (z8j (cs:=(txt l).map D.str) 0 a z7q zbz (by simp) (z0x (fun _=>rfl) _))
theorem pc_EqualS(a b:List ByteArray)(p:a.length<=maxLen)(q:b.length<=maxLen):PC prog 234 [z1n a,z1n b] (.bool (decide (a=b))):=by
 unfold maxLen at p q;refine z14 1 (by simp only[pureD.pureL,z1q,Z3]) rfl (zqzj [] func234 rfl (by decide+kernel) rfl ?_)
 repeat'(first|refine nxt ?_|((refine zqh fun K c=>?_);simp(disch:=omega)only[go_sem,Z0,↓reduceIte,z1n])|(refine zqd _ rfl ?_ ?_<;>intro d<;>(((try simp only[z05]at d);try omega)))|refine zqU ?_|(refine c _ ?_;clear c K))
 ·exact z01 (decide_eq_false (fun h=>by subst h;contradiction)).symm
 ·have j:a.length=b.length:=by omega
  (refine zqL (fun m e=>∃(k:_),m=a.length-k/\e.t 0=z1n a/\e.t 1=z1n b/\e.t 11=z1n a/\e.t 12=.int .i64 a.length/\e.t 13=.int .i64 k/\(k<=a.length)/\(a.take k=b.take k)) ?_ ?_);rintro m e ⟨k,rfl,n,o,l,f,g,r,i⟩;rotate_left
  ·(refine⟨_,0,rfl,?_⟩);simp(disch:=omega)only[go_sem,Z0,and_self,Zn,z1n]
   try simp
  repeat'(first|((first|refine zqh fun K c=>?_|refine zqe (by decide+kernel) fun K c=>?_|refine zqr fun K c=>?_);simp(disch:=omega)only[go_sem,Z0,↓reduceIte,reduceCtorEq,Z2,n,o,f,g,z1n])|((first|refine zqd _ rfl (fun d=>?_) (fun d=>?_)|refine zqm _ rfl (fun d=>?_) (fun d=>?_))<;>(((try simp only[z05]at d);try omega)))|refine nxt ?_|refine zqz ?_|refine zqU ?_|(refine c _ ?_;clear c K))
  ·exact z01 (decide_eq_false (zph (k:=k) (by omega) j (by assumption))).symm
  ·(refine⟨_,?_,k+1,rfl,?_⟩);rotate_left;simp(disch:=omega)only[go_sem,Z0,n,o,l,f,g,true_and,Z7,Za,z1n];rotate_left
   ·omega
   ·exact⟨by omega,z7z (by omega) j i (by assumption)⟩
  ·exact z01 (decide_eq_true (zac (by omega) j i)).symm
theorem zts(w row:List ByteArray)(F:w.length<=1000000)(v:0<row.length)(z:row.length<=1000000):PC prog 193 [z1n w,z1n row] (z43 (z8m w row 0)):=by
 have y:1000000<=maxLen:=by unfold maxLen;omega
 refine z14 2 (by simp only[pureD.pureL,z1q,Z3]) (z8c _) (zqzj [5] func193 rfl (by decide+kernel) rfl ?_)
 repeat'(first|refine nxt ?_|((refine zqh fun K a=>?_);simp(disch:=omega)only[go_sem,Z0,↓reduceIte,z1n])|(refine zqd _ rfl ?_ ?_<;>intro b<;>(((try simp only[z05]at b);try omega)))|(refine a _ ?_;clear a K))
 (refine zqL (fun x e=>∃(i:Nat) (l:List Nat),x=w.length-i/\e.t 0=z1n w/\e.t 1=z1n row/\e.t 5=.osl 0 l.length/\e.t 6=.int .i64 i/\e.H 0=some (.row 3 l.length (l.map fun n:Nat=>D.int .i64 n))/\(i<=w.length)/\(1<=e.nx)/\(z8m w row 0=l++z8m w row i)/\(l.length<=i)) ?_ ?_);rintro x e ⟨i,l,rfl,k,m,r,o,c,A,B,d,C⟩;rotate_left
 ·(refine⟨_,0,[],rfl,?_⟩);simp(disch:=omega)only[go_sem,Z0,Z1,and_self,Zn,Ze,ZL,z1n]
  try exact⟨by omega,by omega⟩
 by_cases E:i+row.length<=w.length
 ·have g:i<w.length:=by omega
  have p:=pc_EqualS ((w.drop i).take row.length) row (by rw[Zf];omega) (by omega);have u:((i:Int)+row.length).toNat=i+row.length:=by omega
  have j:(w.take (i+row.length)).drop i=(w.drop i).take row.length:=by rw[ZV,Yv]
  by_cases q:(w.drop i).take row.length=row
  ·rw[decide_eq_true q]at p;have h:=zto g v q;have s:(l++[i]).length=l.length+1:=by simp
   repeat'(first|refine nxt ?_|((first|refine zqh fun K a=>?_|refine zqr fun K a=>?_|refine zqs (p) ?_);simp(disch:=omega)only[go_sem,Z0,↓reduceIte,reduceCtorEq,Z2,Z1,Zb,k,m,r,o,c,z1n,u,j])|(refine zqd _ rfl ?_ ?_<;>intro b<;>(first|(cases b;done)|((try simp only[z05]at b);try omega)))|(refine a _ ?_;clear a K))
   (refine⟨_,?_,i+row.length,l++[i],rfl,?_⟩);rotate_left;simp(disch:=omega)only[go_sem,Z0,k,m,r,o,c,true_and,Z7,Zp,Zg,Ze,s,z1n];rotate_left
   ·omega
   ·refine⟨by omega,by omega,by rw[d,h];simp,by first|omega|(simp;omega)⟩
  ·rw[decide_eq_false q]at p;have h:=zw1 g q
   repeat'(first|refine nxt ?_|((first|refine zqh fun K a=>?_|refine zqs (p) ?_);simp(disch:=omega)only[go_sem,Z0,↓reduceIte,reduceCtorEq,k,m,o,z1n,u,j])|(refine zqd _ rfl ?_ ?_<;>intro b<;>(first|(cases b;done)|((try simp only[z05]at b);try omega)))|refine zqz ?_|(refine a _ ?_;clear a K))
   (refine⟨_,?_,i+1,l,rfl,?_⟩);rotate_left;simp(disch:=omega)only[go_sem,Z0,k,m,r,o,c,true_and,Z7,Za,z1n];rotate_left
   ·omega
   ·exact⟨by omega,by omega,by rw[d,h],by omega⟩
 ·repeat'(first|refine nxt ?_|((refine zqh fun K a=>?_);simp(disch:=omega)only[go_sem,Z0,↓reduceIte,k,m,r,o,z1n])|(refine zqd _ rfl ?_ ?_<;>intro b<;>(((try simp only[z05]at b);try omega)))|refine zqz ?_|refine zqU ?_|(refine a _ ?_;clear a K))
  have h:=occ_short (w:=w) (row:=row) v (w.length-i) i (Zv _) (by omega);rw[h,Zm]at d;rw[d];exact z3j (z8j (cs:=l.map fun n:Nat=>D.int .i64 n) 0 c z7p zk3 (by simp) (z0x (f:=fun n:Nat=>D.int .i64 n) (fun _=>rfl) _))
theorem zm1(w:List Wd)(row:List ByteArray)(m:w.length<=1000000)(j:0<row.length)(e:row.length<=1000000)(nth:Int)(o:0<=nth)(p:nth<=1000000)(d:¬((z8m (txt w) row 0).length:Int)<nth) :
  PC prog 110 [z0f w,z1n row,.int .i64 nth] (z43 (z8n nth (z8m (txt w) row 0))):=by
 have q:(txt w).length=w.length:=by unfold txt;rw[Zi]
 have g:=zmp w m;have h:=zts (txt w) row (by omega) j e;have i:=(zpy (w:=txt w) (row:=row) j (txt w).length 0 (by omega)).2.2;generalize z8m (txt w) row 0=l at *;refine z14 2 (by simp only[pureD.pureL,z1q,z0g,pureD,Z3]) (z8c _) (zqzj [] func110 rfl (by decide+kernel) rfl ?_);unfold z8n
 by_cases c:nth=0
 ·rw[if_pos c]
  repeat'(first|((first|refine zqh fun K b=>?_|refine zqs (g) ?_|refine zqs (h) ?_);simp(disch:=omega)only[go_sem,Z0,↓reduceIte,z43,c])|((refine zqm _ rfl (fun a=>?_) (fun a=>?_))<;>(first|(cases a;done)|((try omega))))|refine nxt ?_|refine zqU ?_|(refine b _ ?_;clear b K))
  exact z06 (z8c _) (XW _)
 ·rw[if_neg c,if_neg d];have k:(l.take nth.toNat).drop (nth-1).toNat=(l.drop (nth-1).toNat).take 1:=by
   rw[ZV]
   congr 2
   omega
  repeat'(first|((first|refine zqh fun K b=>?_|refine zqs (g) ?_|refine zqs (h) ?_);simp(disch:=omega)only[go_sem,Z0,↓reduceIte,reduceCtorEq,z43,c,k])|((refine zqm _ rfl (fun a=>?_) (fun a=>?_))<;>(first|(cases a;done)|((try simp only[z05]at a);try omega)))|refine nxt ?_|refine zqU ?_|(refine b _ ?_;clear b K))
  exact z06 (z0x (f:=fun n:Nat=>D.int .i64 n) (fun _=>rfl) _) (XW _)
end
section
open Abs Facts Tr
attribute [local irreducible] awp
set_option maxRecDepth 100000
namespace Tr
section
variable {w:List Wd}{gone:Nat}{new:List ByteArray}{a j:Int}
theorem fill_at:∀(q:List Nat) (i o:Nat),(∀p∈q,o<=p/\p<=w.length)->o<=w.length->(z49 w gone new a j q i 0).drop o=z49 w gone new a j q i o/\(z49 w gone new a j q i 0).take o=w.take o/\o<=(z49 w gone new a j q i 0).length
 |[],i,o,_,b=>by
  simp only[z49,ZN];exact⟨trivial,trivial,b⟩
 |p::q,i,o,h,b=>by
  obtain⟨c,d⟩:=h p (by simp);simp only[z49,ZN];have e:(w.take p).length=p:=by rw[Zf];omega
  refine⟨?_,?_,?_⟩
  ·rw[List.drop_append_of_le_length (by omega)]
  ·rw[List.take_append_of_le_length (by omega),Yq,ZT c]
  ·rw[Z6];omega
theorem zwy:∀(q:List Nat) (i o:Nat),(z49 w gone new a j q i o).length<=(q.length+1)*(w.length+new.length)
 |[],i,o=>by
  rw[z49,Zd];simp only[Zx];omega
 |p::q,i,o=>by
  have c:=zwy q (i+1) (p+gone);have e:(q.length+1+1)*(w.length+new.length)=(q.length+1)*(w.length+new.length)+(w.length+new.length):=by rw[ZO (q.length+1),ZP]
  rw[z49,Zq,e];have b:((w.take p).drop o).length<=w.length:=by rw[Zd,Zf];omega
  simp only[Z6,z2f];omega
theorem fill_step{l:List Nat}{n:Nat}(b:n<l.length):z49 w gone new a j (l.drop n) n 0=w.take l[n]++(z1v new a j (n*new.length)++z49 w gone new a j (l.drop (n+1)) (n+1) (l[n]+gone)):=by
 rw[Zk b,z49,ZN]
end
end Tr
theorem seqS_n{K:St->Prop}{Q:Exit->St->Prop}{st:St}(h:K st):zo8 K Q .normal st:=h
set_option maxHeartbeats 16000000 in
theorem zul(w:List Wd)(l:List Nat)(gone:Nat)(new:List ByteArray)(a j:Int)(hw:w.length<=1000)(hl:l.length<=1000)(hn:new.length<=1000)(hg:gone<=1000)(hp:l.Pairwise (fun x y=>x+gone<=y))(hi:∀p∈l,p+gone<=w.length)(a1:(z49 w gone new a j l 0 0).length<=256) :
  PC prog 111 [z0f w,z43 l,.int .i64 gone,z1n new,.int .i64 a,.int .i64 j] (.tup [z0f (z49 w gone new a j l 0 0),.int .i64 0]):=by
 refine z14 3 (by simp only[pureD.pureL,z0g,z8c,z1q,pureD,Z3]) (by simp only[pureD,pureD.pureL,z0g,Z3]) ?_;refine z8f func111 rfl (by decide+kernel) (by simp[ntmps111]) ?_;refine Sem.seq (Sem.walk (own:=[]) z5x (by decide+kernel) ?_)
 repeat'(first|((refine zqr fun K b=>?_);simp(disch:=omega)only[go_sem,↓reduceIte])|(refine b _ ?_;clear b K))
 refine Sem.seq (Sem.walk (own:=[]) z5x (by decide+kernel) ?_)
 repeat'(first|((refine zqr fun K b=>?_);simp(disch:=omega)only[go_sem,Z0,z0f])|(refine b _ ?_;clear b K))
 refine Sem.seq (Sem.copyL (e:=122) (own:=[]) 2 rfl ⟨rfl,rfl⟩ rfl rfl (by decide+kernel) (by decide+kernel) ?_);simp(disch:=omega)only[go_sem,Z0,↓reduceIte,Y0,ZW,Zg,Ze];refine⟨0,w.length,_,w.length,w.flatMap z1p,rfl,rfl,?_,Zv _,?_⟩
 ·(simp(disch:=omega)only[go_sem,z1a])
 have Y:(Yc w.length [D.str Zu,D.int .i64 0,D.int .i64 0,D.int .i64 0]).flatten.drop (w.length*4)=[]:=ZB (by simp);refine seqS_n (Sem.seal _ (zae (P:=prog) (id:=0) (e:=122) (k:=w.length) (cs:=w.flatMap z1p) ?_ (by decide+kernel) (z1z (fun _=>rfl) _)) (Sem.walk (own:=[2000054]) z5x (by decide+kernel) ?_))
 ·(simp(disch:=omega)only[go_sem,Y,Zm])
 have L:=z6s w
 repeat'(first|refine nxt ?_|((refine zqh fun K b=>?_);simp(disch:=omega)only[go_sem,Z0,↓reduceIte,L,z43])|(refine b _ ?_;clear b K))
 (refine zqL (fun mz H=>∃(n:Nat),mz=1+n/\H.t 1=z43 l/\H.t 2=.int .i64 gone/\H.t 3=z1n new/\H.t 4=.int .i64 a/\H.t 5=.int .i64 j/\H.t 14=z0f (z49 w gone new a j (l.drop n) n 0)/\H.t 15=.int .i64 ((n:Int)-1)/\(n<=l.length)) ?_ ?_);rintro mz H ⟨n,rfl,A,B,C,E,G,c,d,a7⟩;rotate_left
 ·(refine⟨_,l.length,rfl,?_⟩);simp(disch:=omega)only[go_sem,Z0,true_and,z0f,z43,z1n,L];rw[ZB (Zv _)];exact⟨rfl,Zv _⟩
 cases n with
 |zero =>
  rw[ZN]at c;generalize z49 w gone new a j l 0 0=F at *
  repeat'(first|refine nxt ?_|((refine zqh fun K b=>?_);simp(disch:=omega)only[go_sem,Z0,↓reduceIte,c,d,z0f])|(refine zqd _ rfl ?_ ?_<;>intro q<;>(first|(cases q;done)|((try simp only[z05]at q);try omega)))|refine zqz ?_|refine zqU ?_|(refine b _ ?_;clear b K))
  refine z06 ?_ (XW _);simp(disch:=omega)only[go_sem,Z0]
 |succ k =>
  have hk:k<l.length:=by omega
  have a0:=hi _ (Zl hk);have W:=hp.sublist (Y9 k l);rw[Zk hk,Y4]at W;have f:=fill_step (w:=w) (gone:=gone) (new:=new) (a:=a) (j:=j) hk;obtain⟨f1,_,f3⟩:=fill_at (w:=w) (gone:=gone) (new:=new) (a:=a) (j:=j) (l.drop (k+1)) (k+1) (l[k]+gone) (fun x O=>⟨W.1 x O,by have:=hi x (ZD O);omega⟩) a0;obtain⟨_,J,_⟩:=fill_at (w:=w) (gone:=gone) (new:=new) (a:=a) (j:=j) (l.drop (k+1)) (k+1) l[k] (fun x O=>⟨by have:=W.1 x O;omega,by have:=hi x (ZD O);omega⟩) (by omega);have a4:=zwy (w:=w) (gone:=gone) (new:=new) (a:=a) (j:=j) (l.drop (k+1)) (k+1) 0;have a3:((l.drop (k+1)).length+1)*(w.length+new.length)<=10000000:=ZS (ZY (show (l.drop (k+1)).length+1<=1001 by rw[Zd];omega) (show w.length+new.length<=2000 by omega)) (by decide);have a6:k*new.length<=1000000:=ZS (ZY (show k<=1000 by omega) hn) (by decide);have Q:=zo9 new (by omega) a j (k*new.length) (by omega);have hM:(z1v new a j (k*new.length)).length=new.length:=z2f _ _ _ _;rw[<-f1]at f;generalize z49 w gone new a j (l.drop (k+1)) (k+1) 0=X at *;generalize z1v new a j (k*new.length)=M at *;obtain⟨V,hV⟩:∃V,V=w.take l[k]:=⟨_,rfl⟩
  obtain⟨Z,I⟩:∃Z,Z=X.drop (l[k]+gone):=⟨_,rfl⟩
  rw[<-hV]at J f;rw[<-I]at f;have o:V.length=l[k]:=by rw[hV,Zf];omega
  have a5:Z.length<=X.length:=by rw[I,Zd];omega
  have U:((l[k]:Int)+gone).toNat=l[k]+gone:=by omega
  have r:((k+1:Nat):Int)-1=(k:Int):=by omega
  have g:IntKind.i64.wrap ((k:Int)*new.length)=((k*new.length:Nat):Int):=by rw[<-Int.natCast_mul,zad (by omega)]
  have s:(l[k]:Int)+gone<=X.length:=by omega
  have a2:l[k]<=X.length:=by omega
  have u:z23 true 4 (V.length+M.length+Z.length) (V.flatMap z1p++M.flatMap z1p++Z.flatMap z1p)=(V++(M++Z)).map z9i:=by
   have h:=z6s (V++(M++Z));rw[Zj,Zj,Z6,Z6,<-Nat.add_assoc,<-Zw]at h;exact h
  have v:z23 true 4 (V.length+Z.length) (V.flatMap z1p++Z.flatMap z1p)=(V++Z).map z9i:=by
   have h:=z6s (V++Z);rw[Zj,Z6]at h;exact h
  have z:z23 true 4 (V.length+M.length) (V.flatMap z1p++M.flatMap z1p)=(V++M).map z9i:=by
   have h:=z6s (V++M);rw[Zj,Z6]at h;exact h
  rw[o]at u v z;have pV:pureD.pureL (V.flatMap z1p)=true:=z1z (fun _=>rfl) V;have pM:pureD.pureL (M.flatMap z1p)=true:=z1z (fun _=>rfl) M;have pZ:pureD.pureL (Z.flatMap z1p)=true:=z1z (fun _=>rfl) Z
  by_cases m:M.length=0
  ·have eM:M=[]:=Zr m
   by_cases i:Z.length=0
   ·have R:Z=[]:=Zr i
    repeat'(first|refine nxt ?_|((first|refine zqh fun K b=>?_|refine zqr fun K b=>?_|refine zqq (by decide+kernel) fun K b=>?_|refine zqt (Q) ?_);simp(disch:=omega)only[go_sem,Z0,↓reduceIte,reduceCtorEq,Z2,A,B,C,E,G,c,d,z0f,z43,z1n,r,U,g,s,J,<-I,o,z1a,m,i])|(refine zqd _ rfl ?_ ?_<;>intro q<;>(first|(cases q;done)|((try omega))))|(refine b _ ?_;clear b K))
    (refine⟨_,?_,k,rfl,?_⟩);rotate_left;simp(disch:=omega)only[go_sem,Z0,A,B,C,E,G,c,d,true_and,Z7,Za,Ze,Zm,z0f,z43,z1n,f,eM,R];rotate_left
    ·omega
    ·omega
   ·repeat'(first|refine nxt ?_|((first|refine zqh fun K b=>?_|refine zqr fun K b=>?_|refine zqq (by decide+kernel) fun K b=>?_|refine zqt (Q) ?_);simp(disch:=omega)only[go_sem,Z0,↓reduceIte,reduceCtorEq,Z2,A,B,C,E,G,c,d,z0f,z43,z1n,r,U,g,s,J,<-I,o,z1a,m,i,v,pV,pZ])|(refine zqd _ rfl ?_ ?_<;>intro q<;>(first|(cases q;done)|((try omega))))|(refine b _ ?_;clear b K))
    (refine⟨_,?_,k,rfl,?_⟩);rotate_left;simp(disch:=omega)only[go_sem,Z0,A,B,C,E,G,c,d,true_and,Z7,Za,Zp,Ze,ZL,z0f,z43,z1n,f,eM];rotate_left
    ·omega
    ·omega
  ·by_cases i:Z.length=0
   ·have R:Z=[]:=Zr i;have N:z23 true 4 (l[k]+M.length) (V.flatMap z1p++M.flatMap z1p++Z.flatMap z1p)=(V++M).map z9i:=by
     rw[R,ZE,Zm];exact z
    repeat'(first|refine nxt ?_|((first|refine zqh fun K b=>?_|refine zqr fun K b=>?_|refine zqq (by decide+kernel) fun K b=>?_|refine zqt (Q) ?_);simp(disch:=omega)only[go_sem,Z0,↓reduceIte,reduceCtorEq,Z2,A,B,C,E,G,c,d,z0f,z43,z1n,r,U,g,s,J,<-I,o,z1a,m,i,N,pV,pM,pZ])|(refine zqd _ rfl ?_ ?_<;>intro q<;>(first|(cases q;done)|((try omega))))|(refine b _ ?_;clear b K))
    (refine⟨_,?_,k,rfl,?_⟩);rotate_left;simp(disch:=omega)only[go_sem,Z0,A,B,C,E,G,c,d,true_and,Z7,Za,ZE,Zp,Ze,Zm,z0f,z43,z1n,f,R];rotate_left
    ·omega
    ·omega
   ·repeat'(first|refine nxt ?_|((first|refine zqh fun K b=>?_|refine zqr fun K b=>?_|refine zqq (by decide+kernel) fun K b=>?_|refine zqt (Q) ?_);simp(disch:=omega)only[go_sem,Z0,↓reduceIte,reduceCtorEq,Z2,A,B,C,E,G,c,d,z0f,z43,z1n,r,U,g,s,J,<-I,o,z1a,m,u,pV,pM,pZ])|(refine zqd _ rfl ?_ ?_<;>intro q<;>(first|(cases q;done)|((try omega))))|(refine b _ ?_;clear b K))
    (refine⟨_,?_,k,rfl,?_⟩);rotate_left;simp(disch:=omega)only[go_sem,Z0,A,B,C,E,G,c,d,true_and,Z7,Za,Zp,z0f,z43,z1n,f];rotate_left
    ·omega
    ·omega
namespace Tr
theorem zwz{nth:Int}{l:List Nat}:(z8n nth l).Sublist l:=by
 unfold z8n;split
 ·exact List.Sublist.refl _
 split
 ·exact List.nil_sublist _
 ·exact(List.take_sublist ..).trans (Y9 ..)
theorem zx0{nth:Int}{l:List Nat}(e:0<=nth)(c:¬l.length=0)(d:¬(l.length:Int)<nth):¬(z8n nth l).length=0:=by
 unfold z8n
 by_cases b:nth=0
 ·rw[if_pos b];exact c
 ·rw[if_neg b,if_neg d,Zf,Zd];omega
end Tr
section
variable {w:List Wd}{old new:List ByteArray}{nth a j:Int}
theorem zum(v:w.length<=1000)(n:0<old.length)(i:old.length<=1000)(s:new.length<=1000)(k:0<=nth)(A:nth<=1000)(h:¬(z8m (txt w) old 0).length=0)(f:¬((z8m (txt w) old 0).length:Int)<nth)(e:(z49 w old.length new a j (z8n nth (z8m (txt w) old 0)) 0 0).length<=256) :
  PC prog 49 [z0f w,z1n old,z1n new,.int .i64 nth,.int .i64 a,.int .i64 j] (.tup [z0f (z49 w old.length new a j (z8n nth (z8m (txt w) old 0)) 0 0),.int .i64 0]):=by
 have x:(txt w).length=w.length:=by unfold txt;rw[Zi]
 obtain⟨y,z,B⟩:=zpy (w:=txt w) (row:=old) n (txt w).length 0 (by omega);have o:=zm1 w old (by omega) n (by omega) nth k (by omega) f;have u:=zx0 k h f;have b:=zwz (nth:=nth) (l:=z8m (txt w) old 0);have q:=zul w (z8n nth (z8m (txt w) old 0)) old.length new a j v (by have:=b.length_le;omega) s i (z.sublist b) (fun p t=>by have:=(y p (b.subset t)).2;omega) e;generalize z49 w old.length new a j (z8n nth (z8m (txt w) old 0)) 0 0=F at *;generalize z8n nth (z8m (txt w) old 0)=L at *;refine z14 3 (by simp only[pureD.pureL,z0g,z1q,pureD,Z3]) (by simp only[pureD,pureD.pureL,z0g,Z3]) (zqzj [] func49 rfl (by decide+kernel) rfl ?_)
 repeat'(first|refine nxt ?_|((first|refine zqh fun K m=>?_|refine zqs (o) ?_|refine zqs (q) ?_);simp(disch:=omega)only[go_sem,Z0,↓reduceIte,z1n,z43])|(refine zqd _ rfl ?_ ?_<;>intro r<;>(((try simp only[z05]at r);try omega)))|refine zqu (by(simp(disch:=omega)only[go_sem,Z0]);rfl) rfl ?_|(refine m _ ?_;clear m K)|(refine zqf (fun g=>?_) (fun g=>?_)<;>(have c:=g;try simp only[z05]at c)<;>((first|have d:=eq_false c|have d:=eq_true c);simp(disch:=omega)only[go_sem,Z0,↓reduceIte,d];clear g d;try omega)))
 refine z06 ?_ (XW _);simp(disch:=omega)only[go_sem,Z0,z0g]
theorem oc_CloneI{L:List Nat}(h:¬L.length=0)(k:L.length<=1000000):OC prog 114 [z43 L] [.row 3 L.length (L.map fun n:Nat=>D.int .i64 n)] (.osl 0 L.length):=by
 cases L with
 |nil=>exact absurd rfl h
 |cons x L =>
  refine zi6 (by simp only[pureD.pureL,z8c,Z3]) rfl (fun o d=>by simp at d;subst d;exact z0x (f:=fun n:Nat=>D.int .i64 n) (fun _=>rfl) _) (zqzj [5] func114 rfl (by decide+kernel) rfl ?_);rw[Zq]at k
  repeat'(first|refine nxt ?_|((refine zqh fun K c=>?_);simp(disch:=omega)only[go_sem,Z0,↓reduceIte,reduceCtorEq,Z2,Z1,Zb,z43,Zg])|(refine zqd _ rfl ?_ ?_<;>intro e<;>(first|(cases e;done)|((try omega))))|refine zqU ?_|(refine c _ ?_;clear c K))
  refine⟨fun _=>0,fun i j g b _=>by simp at g b;omega,?_,fun j b=>?_⟩
  ·(simp(disch:=omega)only[go_sem,Z0,renD])
  ·obtain rfl:j=0:=by simp at b;omega
   (simp(disch:=omega)only[go_sem])
def upR(k:Nat)(L:List Nat)(n:Nat):List Nat:=(L.take n).map (· + k)++L.drop n
theorem upR_step{k:Nat}{L:List Nat}{n:Nat}(h:n<L.length):(upR k L n)[n]?=some L[n]/\(upR k L n).set n (L[n]+k)=upR k L (n+1)/\(upR k L n).length=L.length:=by
 have b:((L.take n).map (· + k)).length=n:=by rw[Zi,Zf];omega
 unfold upR;refine⟨?_,?_,?_⟩
 ·rw[Yd (by omega),b,Ya,Yj,ZM,ZQ h]
 ·rw[Yg _ _ (by omega),b,Ya,Zk h,Z4,Zo h,Zp,Zw];rfl
 ·rw[Z6,b,Zd];omega
set_option maxHeartbeats 16000000 in
theorem zke(hw:w.length<=1000)(W:0<old.length)(a2:old.length<=1000)(a1:¬new.length=0)(hn:new.length<=1000)(R:0<=nth)(h1:nth<=1000)(E:¬(z8m (txt w) old 0).length=0)(A:¬((z8m (txt w) old 0).length:Int)<nth)(y:(z49 w 0 new a j ((z8n nth (z8m (txt w) old 0)).map (· + old.length)) 0 0).length<=256) :
  PC prog 51 [z0f w,z1n old,z1n new,.int .i64 nth,.int .i64 a,.int .i64 j] (.tup [z0f (z49 w 0 new a j ((z8n nth (z8m (txt w) old 0)).map (· + old.length)) 0 0),.int .i64 0]):=by
 have a4:(txt w).length=w.length:=by unfold txt;rw[Zi]
 obtain⟨i1,i2,i3⟩:=zpy (w:=txt w) (row:=old) W (txt w).length 0 (by omega);have c1:=zm1 w old (by omega) W (by omega) nth R (by omega) A;have M:=zx0 R E A;have c:=zwz (nth:=nth) (l:=z8m (txt w) old 0);have a0:(z8n nth (z8m (txt w) old 0)).length<=1000:=by have:=c.length_le;omega
 have z:∀p∈z8n nth (z8m (txt w) old 0),p+old.length<=w.length:=fun p J=>by have:=(i1 p (c.subset J)).2;omega
 have c2:=oc_CloneI M (by omega)
 have Q:=zul w ((z8n nth (z8m (txt w) old 0)).map (· + old.length)) 0 new a j hw (by rw[Zi];omega) hn (by omega) (List.pairwise_map.2 ((i2.sublist c).imp fun h=>by omega)) (fun p J=>by
  obtain⟨x,hx,rfl⟩:=Y7.1 J
  have:=z x hx;omega) y
 generalize z49 w 0 new a j ((z8n nth (z8m (txt w) old 0)).map (· + old.length)) 0 0=F at *;generalize z8n nth (z8m (txt w) old 0)=L at *;have a3:¬old.length=0:=by omega
 refine z14 3 (by simp only[pureD.pureL,z0g,z1q,pureD,Z3]) (by simp only[pureD,pureD.pureL,z0g,Z3]) (zqzj [] func51 rfl (by decide+kernel) rfl ?_)
 repeat'(first|refine nxt ?_|((first|refine zqh fun K b=>?_|refine zqs (c1) ?_|refine zcx (c2) ?_);simp(disch:=omega)only[go_sem,Z0,↓reduceIte,z1n,z43])|(refine zqd _ rfl ?_ ?_<;>intro v<;>(first|(cases v;done)|((try simp only[z05]at v);try omega)))|(refine b _ ?_;clear b K)|(refine zqf (fun B=>?_) (fun B=>?_)<;>(have o:=B;try simp only[z05]at o)<;>((first|have q:=eq_false o|have q:=eq_true o);simp(disch:=omega)only[go_sem,Z0,↓reduceIte,q];clear B q;try omega)))
 (refine zqL (fun X d=>∃(n:Nat),X=L.length-n/\d.t 0=z0f w/\d.t 1=z1n old/\d.t 2=z1n new/\d.t 4=.int .i64 a/\d.t 5=.int .i64 j/\d.t 14=.osl 0 L.length/\d.t 52=.int .i64 L.length/\d.t 53=.int .i64 n/\d.H 0=some (.row 3 L.length ((upR old.length L n).map fun n:Nat=>D.int .i64 n))/\(n<=L.length)/\(1<=d.nx)) ?_ ?_);rintro X d ⟨n,rfl,Y,Z,q2,q4,q5,r,s,u,g,a5,a6⟩;rotate_left
 ·(refine⟨_,0,rfl,?_⟩);simp(disch:=omega)only[go_sem,Z0,Z1,true_and,and_true,and_self,Zn,z0f,z1n]
  rfl
 by_cases U:n<L.length
 ·obtain⟨u1,u2,u3⟩:=upR_step (k:=old.length) U;have B:=z _ (Zl U);have u4:((upR old.length L n).map fun n:Nat=>D.int .i64 n).set n (.int .i64 ((L[n]:Int)+old.length))=(upR old.length L (n+1)).map fun n:Nat=>D.int .i64 n:=by
   rw[<-u2,List.map_set]
   congr 1
  repeat'(first|((first|refine zqh fun K b=>?_|refine zqr fun K b=>?_);simp(disch:=omega)only[go_sem,Z0,↓reduceIte,reduceCtorEq,Z2,Zb,Z,r,s,u,g,z1n,u1,u3,u4])|(refine zqd _ rfl ?_ ?_<;>intro v<;>(((try simp only[z05]at v);try omega)))|refine nxt ?_|(refine b _ ?_;clear b K))
  (refine⟨_,?_,n+1,rfl,?_⟩);rotate_left;simp(disch:=omega)only[go_sem,Z0,Y,Z,q2,q4,q5,r,s,u,g,true_and,Z7,Za,z0f,z1n];rotate_left
  ·omega
  ·exact⟨by omega,by omega⟩
 ·have I:n=L.length:=by omega
  subst I;have O:upR old.length L L.length=L.map (· + old.length):=by unfold upR;rw[ZA,Ym,Zm]
  obtain⟨i,m⟩:∃i,i=L.map (· + old.length):=⟨_,rfl⟩
  have G:i.length=L.length:=by rw[m,Zi]
  rw[O,<-m]at g;rw[<-m]at Q;have N:pureD.pureL (i.map fun n:Nat=>D.int .i64 n)=true:=z0x (f:=fun n:Nat=>D.int .i64 n) (fun _=>rfl) _;have C:z23 false 1 L.length (i.map fun n:Nat=>D.int .i64 n)=(i.map fun n:Nat=>D.int .i64 n):=zdy (by simp[G])
  repeat'(first|((refine zqh fun K b=>?_);simp(disch:=omega)only[go_sem,↓reduceIte,s,u])|(refine zqd _ rfl ?_ ?_<;>intro v<;>(((try simp only[z05]at v);try omega)))|refine nxt ?_|(refine b _ ?_;clear b K))
  refine zqz (zbr _ (zae (P:=prog) (id:=0) (e:=3) (k:=L.length) (cs:=i.map fun n:Nat=>D.int .i64 n) (by(simp(disch:=omega)only[go_sem,g])) (by decide+kernel) N) ?_)
  repeat'(first|((first|refine zqh fun K b=>?_|refine zqs (Q) ?_);simp(disch:=omega)only[go_sem,Z0,Y,q2,q4,q5,r,z1n,z0f,C])|refine nxt ?_|refine zqU ?_|(refine b _ ?_;clear b K))
  refine z06 ?_ (XW _);simp(disch:=omega)only[go_sem,Z0]
theorem zkf(n:w.length<=1000)(l:¬new.length=0)(k:new.length<=1000)(d:(z49 w 0 new a j [0] 0 0).length<=256) :
  PC prog 51 [z0f w,z1n [],z1n new,.int .i64 0,.int .i64 a,.int .i64 j] (.tup [z0f (z49 w 0 new a j [0] 0 0),.int .i64 0]):=by
 have h:=zul w [0] 0 new a j n (by simp) k (by omega) (by simp) (fun p m=>by simp at m;omega) d;generalize z49 w 0 new a j [0] 0 0=F at *;have i:=h.le (ds:=[z0f w,.rsl true 1 [.int .i64 0],.int .i64 0,z1n new,.int .i64 a,.int .i64 j]) (by simp only[pureD.pureL,pureD,z0g,z1q,Z3]) ⟨XW _,Le.rsl,XW _,XW _,XW _,XW _,trivial⟩;refine z14 3 (by simp only[pureD.pureL,z0g,z1q,pureD,Z3]) (by simp only[pureD,pureD.pureL,z0g,Z3]) (zqzj [] func51 rfl (by decide+kernel) rfl ?_)
 repeat'(first|refine nxt ?_|((first|refine zqh fun K f=>?_|refine zqs (i) ?_);simp(disch:=omega)only[go_sem,Z0,↓reduceIte,reduceCtorEq,Z2,Z1,z1n,Ze,Zx])|(refine zqd _ rfl ?_ ?_<;>intro g<;>(first|(cases g;done)|((try simp only[z05]at g);try omega)))|refine zqu (by(simp(disch:=omega)only[go_sem,Z0]);rfl) rfl ?_|(refine f _ ?_;clear f K)|(refine zqf (fun e=>?_) (fun e=>?_)<;>(have b:=e;try simp only[z05]at b)<;>((first|have c:=eq_false b|have c:=eq_true b);simp(disch:=omega)only[go_sem,Z0,↓reduceIte,ZR,c,Zx];clear e c;try omega)))
 refine z06 ?_ (XW _);simp(disch:=omega)only[go_sem,Z0,z0g]
end
end
section
open Abs Facts Tr
attribute [local irreducible] awp
set_option maxRecDepth 100000
def stB(a i:Int)(n m:Nat):HObj:=.box 148 [.int .i64 a,.int .i64 i,.int .i64 n,.int .i64 m]
theorem tc_row(l:List Wd)(e:l.length<=1000000)(a i:Int)(n m:Nat)(k:m+l.length<=1000000000000):TC prog 172 [.ptr 2 0,z0f l] 2 (stB a i n m) (stB a i n (m+l.length)) (z0f (z1v (txt l) a i m)):=by
 have f:=zmp l e;have g:=zo9 (txt l) (by unfold txt;rw[Zi];exact e) a i m (by omega);have j:IntKind.i64.wrap ((m:Int)+l.length)=((m+l.length:Nat):Int):=by rw[zad (by omega)];omega
 have c:(z1v (txt l) a i m).length=l.length:=by rw[z2f];unfold txt;rw[Zi]
 intro H o h d;unfold stB at d;refine(zqzj [5000007,5000020,3000011,3000015,3000019] func172 rfl (by decide+kernel) rfl ?_)
 repeat'(first|((first|refine zqh fun K b=>?_|refine zqe (by decide+kernel) fun K b=>?_|refine zqt (f) ?_|refine zqt (g) ?_);simp(disch:=omega)only[go_sem,Z0,Z8,↓reduceIte,reduceCtorEq,Z2,Z1,Zb,d,z0f,c,j])|refine nxt ?_|refine zqU ?_|(refine b _ ?_;clear b K))
 (simp(disch:=omega)only[go_sem,Z0,stB,z0f])
def zoq(a i:Int)(t:T)(n m k:Nat):List T:=(za9 ((t.kids.take k).map (z1x a i)) (n+2) (m+t.head.length+t.words.length)).1++t.kids.drop k
theorem zyy(a i:Int)(t:T)(n m k:Nat)(b:k<t.kids.length):(zoq a i t n m k).length=t.kids.length/\(zoq a i t n m k)[k]?=some t.kids[k] /\
  (zoq a i t n m k).set k (z1x a i t.kids[k] (n+1+((t.kids.take k).flatMap z0c).length+1) (m+t.head.length+t.words.length+((t.kids.take k).map wcT).sum)).1=zoq a i t n m (k+1):=by
 have c:(za9 ((t.kids.take k).map (z1x a i)) (n+2) (m+t.head.length+t.words.length)).1.length=k:=by
  rw[(z71 a i (fun _ _=>True) (t.kids.take k) (fun _ _ _ _=>trivial) _ _).1,Zf];omega
 have e:=zj7 (z1x a i t.kids[k]) ((t.kids.take k).map (z1x a i)) (n+2) (m+t.head.length+t.words.length);have d:=zxa a i (t.kids.take k) (n+2) (m+t.head.length+t.words.length);unfold zoq;refine⟨by rw[Z6,c,Zd];omega,?_,?_⟩
 ·rw[Yd (by omega),c,Ya,Yj,ZM,ZQ b]
 ·rw[Yg _ _ (by omega),c,Ya,Zk b,Z4,Zo b,Zp,Zg,Ze,e,d];simp only[Zw,List.singleton_append];rw[show n+1+((t.kids.take k).flatMap z0c).length+1=n+2+((t.kids.take k).flatMap z0c).length from by omega]
theorem sums_step(t:T){k:Nat}(d:k<t.kids.length):((t.kids.take (k+1)).flatMap z0c).length=((t.kids.take k).flatMap z0c).length+cntT t.kids[k]/\((t.kids.take (k+1)).map wcT).sum=((t.kids.take k).map wcT).sum+wcT t.kids[k] /\
  1+((t.kids.take k).flatMap z0c).length+cntT t.kids[k]<=cntT t/\t.head.length+t.words.length+((t.kids.take k).map wcT).sum+wcT t.kids[k]<=wcT t:=by
 have a:=zii (f:=cntT) t.kids (k+1);have b:=zii (f:=wcT) t.kids (k+1);have c:=z4f t;have e:=zpd t;rw[zgu]at c;rw[zgu,zgu];rw[Zo d,Zp,Yo]at a b⊢;rw[Zp,Yo];simp only[Zg,Ze,List.sum_cons,List.sum_nil,ZM]at a b⊢;exact⟨trivial,trivial,by omega,by omega⟩
def zo1(a i:Int)(t:T)(n m:Nat)(ks:D):List D:=[.int .i64 a,.int .i64 i,.int .i64 ((n+1:Nat):Int),.int .i64 t.kind,.str t.label,z0f (z1v (txt t.head) a i m),z0f (z1v (txt t.words) a i (m+t.head.length)),ks]
theorem seqT_n{K:St->Prop}{Q:Exit->St->Prop}{st:St}(h:K st):zo8 K Q .normal st:=h
set_option maxHeartbeats 16000000 in
theorem tc_tree(a i:Int):∀t:T,szB t=true->∀n m:Nat,n+cntT t<=1000000000->m+wcT t<=1000000000000 ->
  TC prog 100 [.ptr 2 0,z0o t] 2 (stB a i n m) (stB a i (n+cntT t) (m+wcT t)) (z0o (z1x a i t (n+1) m).1):=by
 refine z4a fun t ih hs n m hn hm=>?_;obtain⟨h0,Z,g1,h2,g2,h3,h4⟩:=(z1k t).1 hs;have w:=z4f t;have y:=zpd t;have X:=tc_row t.head Z a i (n+1) m (by omega);have Y:=tc_row t.words h2 a i (n+1) (m+t.head.length) (by omega);have R:IntKind.i64.wrap ((n:Int)+1)=((n+1:Nat):Int):=by rw[zad (by omega)];omega
 refine TC_fin (k:=3) (z02 _) (fun m hm=>rfl) fun H d a1 E=>?_;refine z8f func100 rfl (by decide+kernel) (by simp[ntmps100]) ?_;rw[show Tryz.f100.results.toList=[.cell 4 27] from rfl];rw[show z0o t=.agg _ from by rw[z0o,z0n]];have b:=zvn (nx:=d) (by omega);have B:d+1+1=d+2:=rfl;have C:d+2+1=d+3:=rfl;unfold stB at E X Y;refine Sem.seq (Sem.walk (own:=[]) z5x (by decide+kernel) ?_)
 repeat'(first|((refine zqr fun K c=>?_);simp(disch:=omega)only[go_sem,B])|(refine c _ ?_;clear c K))
 refine Sem.seq (Sem.walk (own:=[]) z5x (by decide+kernel) ?_)
 repeat'(first|((refine zqr fun K c=>?_);simp(disch:=omega)only[go_sem,Z0,Zs,↓reduceIte,reduceCtorEq,Z2,Z1,Zb,E,b,R])|(refine c _ ?_;clear c K))
 refine Sem.seq (Sem.walk (own:=[]) z5x (by decide+kernel) ?_)
 repeat'(first|((refine zqq (by decide+kernel) fun K c=>?_);simp(disch:=omega)only[go_sem,Z0,Zs,↓reduceIte,reduceCtorEq,Z2,Z1,E,b,Z5,Z4])|(refine c _ ?_;clear c K))
 refine Sem.seq (Sem.walk (own:=[]) z5x (by decide+kernel) ?_)
 repeat'(first|((first|refine zqr fun K c=>?_|((refine zie (X) ?_ ?_ ?_);(focus ((simp(disch:=omega)only[go_sem,Zs,b]);done));(focus (((simp(disch:=omega)only[go_sem]);done)))));simp(disch:=omega)only[go_sem,Z0,↓reduceIte,reduceCtorEq,Z2,b])|(refine c _ ?_;clear c K))
 refine Sem.seq (Sem.walk (own:=[]) z5x (by decide+kernel) ?_)
 repeat'(first|((first|refine zqr fun K c=>?_|((refine zie (Y) ?_ ?_ ?_);(focus ((simp(disch:=omega)only[go_sem,Zs,b]);done));(focus (((simp(disch:=omega)only[go_sem]);done)))));simp(disch:=omega)only[go_sem,Z0,↓reduceIte,reduceCtorEq,Z2,b,Z5,Z4])|(refine c _ ?_;clear c K))
 refine Sem.seq (Sem.walk (own:=[]) z5x (by decide+kernel) ?_)
 repeat'(first|((refine zqr fun K c=>?_);simp(disch:=omega)only[go_sem,Z0,↓reduceIte,reduceCtorEq,Z2,b,C,Z5,Z4,z0l])|(refine c _ ?_;clear c K))
 refine Sem.seq (Sem.copyL (e:=27) (own:=[]) 3 rfl ⟨rfl,rfl⟩ rfl rfl (by decide+kernel) (by decide+kernel) ?_);simp(disch:=omega)only[go_sem,Z0,↓reduceIte,reduceCtorEq,Z2,Y0,ZW,Zg,Ze,b];refine⟨d+2,t.kids.length,(Yc t.kids.length zU).flatten,t.kids.length,t.kids.flatMap z08,rfl,?_,?_,Zv _,?_⟩
 ·unfold zU;simp(disch:=omega)only[go_sem,Zs,b]
 ·(simp(disch:=omega)only[go_sem,z4e])
 refine seqT_n (Sem.walk (own:=[]) z5x (by decide+kernel) ?_)
 repeat'(first|refine nxt ?_|((refine zqh fun K c=>?_);simp(disch:=omega)only[go_sem,Z0])|(refine c _ ?_;clear c K))
 have G:((Yc t.kids.length zU).flatten).drop (t.kids.length*8)=[]:=ZB (by simp[zU]);(refine zqL (fun mz j=>∃(k:_),mz=t.kids.length-k/\j.t 0=.ptr 2 0/\j.t 3=.ptr d 0/\j.t 4=.ptr (d+1) 0/\j.t 5=.osl (d+2) t.kids.length/\j.t 47=.int .i64 t.kids.length/\j.t 48=.int .i64 k/\j.H 2=some (stB a i (n+1+((t.kids.take k).flatMap z0c).length) (m+t.head.length+t.words.length+((t.kids.take k).map wcT).sum))/\j.H (d)=some (.box 27 (zo1 a i t n m (z0l t.kids)))/\j.H (d+1)=some (.box 27 zU)/\j.H (d+2)=some (.row 27 t.kids.length ((zoq a i t n m k).flatMap z08))/\(k<=t.kids.length)/\(d+3<=j.nx)/\(∀id,id<d->id≠2->j.H id=H id)) ?_ ?_);rintro mz j ⟨k,rfl,q0,q3,U,W,s,u,v,o,g,h,a3,a4,z⟩;rotate_left
 ·(refine⟨_,0,rfl,?_⟩);simp(disch:=omega)only[go_sem,Z0,Zs,Z1,true_and,Z7,Za,Zn,ZE,Ze,Zm,b,G,zo1,z0l,stB];exact⟨by simp,rfl,by simp[zoq,za9],Zv _,fun id Z h2=>by simp(disch:=omega)only[z40]⟩
 by_cases A:k<t.kids.length
 ·obtain⟨r1,r2,r3⟩:=zyy a i t n m k A;obtain⟨s1,s2,s3,s4⟩:=sums_step t A;have r:k<(zoq a i t n m k).length:=by omega
  have I:=ih t.kids[k] (Zl A) (h4 _ (Zl A)) (n+1+((t.kids.take k).flatMap z0c).length) (m+t.head.length+t.words.length+((t.kids.take k).map wcT).sum) (by omega) (by omega);have L:(((zoq a i t n m k).flatMap z08).drop (k*8)).take 8=z08 t.kids[k]:=by
   rw[zji z0h r];rw[ZQ r]at r2;exact congrArg z08 (Option.some.inj r2)
  have Q:z1d ((zoq a i t n m k).flatMap z08) (k*8) (z08 (z1x a i t.kids[k] (n+1+((t.kids.take k).flatMap z0c).length+1) (m+t.head.length+t.words.length+((t.kids.take k).map wcT).sum)).1)=(zoq a i t n m (k+1)).flatMap z08:=by rw[zbu z0h r,r3]
  have M:((zoq a i t n m k).flatMap z08).length=t.kids.length*8:=by rw[z6l z0h,r1]
  have b1:3<=d:=by omega
  have b2:3<=d+2:=by omega
  have b3:3<=j.nx:=by omega
  repeat'(first|((first|refine zqh fun K c=>?_|refine zqr fun K c=>?_|((refine zie (I) ?_ ?_ ?_);(focus ((simp(disch:=omega)only[go_sem,v]);done));(focus (((simp(disch:=omega)only[go_sem]);omega)))));simp(disch:=omega)only[go_sem,Z0,Zs,↓reduceIte,reduceCtorEq,Z2,q0,W,s,u,h,L,Q,M,z0o,b])|(refine zqd _ rfl ?_ ?_<;>intro F<;>(((try simp only[z05]at F);try omega)))|refine nxt ?_|(refine c _ ?_;clear c K))
  (refine⟨_,?_,k+1,rfl,?_⟩);rotate_left;simp(disch:=omega)only[go_sem,Z0,Zs,q0,q3,U,W,s,u,v,o,g,h,true_and,Z7,Za,b,zo1,zU,stB,s1,s2];rotate_left
  ·omega
  ·refine⟨by rw[Yr,Yr _ _ (wcT t.kids[k]:Int)],by omega,by omega,fun id p q=>?_⟩;simp(disch:=omega)only[z40];exact z id p q
 ·have J:k=t.kids.length:=by omega
  subst J;have a0:((t.kids.take t.kids.length).flatMap z0c).length+1=cntT t:=by rw[ZA,w];omega
  have a2:t.head.length+t.words.length+((t.kids.take t.kids.length).map wcT).sum=wcT t:=by rw[ZA,y]
  have N:=z56 a i t (n+1) m;have P:(zoq a i t n m t.kids.length).length=t.kids.length:=by
   unfold zoq;rw[Z6,(z71 a i (fun _ _=>True) (t.kids.take t.kids.length) (fun _ _ _ _=>trivial) _ _).1,Zf,Zd];omega
  have O:zoq a i t n m t.kids.length=(za9 (t.kids.map (z1x a i)) (n+2) (m+t.head.length+t.words.length)).1:=by
   unfold zoq;rw[ZA,Ym,Zm]
  have x:(z1x a i t (n+1) m).1=.mk ⟨a,i,((n+1:Nat):Int)⟩ t.kind t.label (z1v (txt t.head) a i m) (z1v (txt t.words) a i (m+t.head.length)) (zoq a i t n m t.kids.length):=by rw[N,O];rfl
  repeat'(first|((refine zqh fun K c=>?_);simp(disch:=omega)only[go_sem,Z0,↓reduceIte,reduceCtorEq,Z2,Z1,Zb,q3,U,W,s,u,o,g,b,zo1,zU,z0l,Z5,Z4])|(refine zqd _ rfl ?_ ?_<;>intro F<;>(((try simp only[z05]at F);try omega)))|refine nxt ?_|refine zqz ?_|refine zqu (by(simp(disch:=omega)only[go_sem,Z0,↓reduceIte,Z2,Z1,U,g,b,zU]);rfl) rfl ?_|(refine c _ ?_;clear c K))
  rw[x];refine⟨⟨_,z6j (k:=2) ?_ (z00 (z0e 1 rfl) (z00 (z0e 1 rfl) (z00 (z0e 1 rfl) (z00 (z0e 1 rfl) (z00 (z0e 1 rfl) (z00 (z0e 1 (z0g _)) (z00 (z0e 1 (z0g _)) (z00 (z1j (f:=z08) (l:=zoq a i t n m t.kids.length) 0 P ?_ z0p z35 z0h z04) z0i)))))))),?_⟩,?_,?_⟩
  ·simp[pureD.pureL,pureD]
  ·rw[hi_get (by omega)];simp(disch:=omega)only[go_sem,h,b]
  ·first|exact XW _|(rw[z0n];exact XW _)
  ·(simp(disch:=omega)only[go_sem,Zs,v,b,stB]);rw[w,y,show n+1+(t.kids.flatMap z0c).length=n+(1+(t.kids.flatMap z0c).length) from by omega,show m+t.head.length+t.words.length+(t.kids.map wcT).sum=m+(t.head.length+t.words.length+(t.kids.map wcT).sum) from by omega]
  ·intro id p q;simp(disch:=omega)only[go_sem];simp(disch:=omega)only[z40];exact z id p q
theorem pc_StampW(a i:Int)(t:T)(d:szB t=true)(e:cntT t<=100000):PC prog 43 [z0o t,.int .i64 a,.int .i64 i] (z0o (z39 a i t)):=by
 have f:=wc_le t d;have b:=tc_tree a i t d 0 0 (by omega) (by omega);unfold stB at b;rw[show ((0:Nat):Int)=0 from rfl]at b;refine z14 3 (by simp only[pureD.pureL,z02,pureD,Z3]) (z02 _) (zqzj [] func43 rfl (by decide+kernel) rfl ?_);rw[show Tryz.f43.results.toList=[.cell 6 27] from rfl]
 repeat'(first|((first|refine zqh fun K c=>?_|((refine zie (b) ?_ ?_ ?_);(focus ((simp(disch:=omega)only[go_sem,Z0]);done));(focus (((simp(disch:=omega)only[go_sem,Zb]);done)))));simp(disch:=omega)only[go_sem,Z0,↓reduceIte,Z2,Z1])|refine nxt ?_|refine zqu (by(simp(disch:=omega)only[go_sem,Z0,↓reduceIte,Z1]);rfl) rfl ?_|(refine c _ ?_;clear c K))
 exact z06 (z02 _) (XW _)
namespace Tr
theorem txt_get(w:List Wd){i:Nat}(h:i<w.length)(a:i<(txt w).length):(txt w)[i]=w[i].text:=Yk ..
theorem zgh(w:List Wd):(txt w).length=w.length:=by unfold txt;rw[Zi]
end Tr
theorem pc_begins(w:List Wd)(k:Nat)(row:List ByteArray)(v:w.length<=1000000)(s:k<=1000000)(h:0<row.length)(u:row.length<=1000000):PC prog 163 [z0f w,.int .i64 k,z1n row] (.bool (decide (((txt w).drop k).take row.length=row))):=by
 refine z14 1 (by simp only[pureD.pureL,z1q,z0g,pureD,Z3]) rfl (zqzj [] func163 rfl (by decide+kernel) rfl ?_)
 by_cases g:w.length<k+row.length
 ·rw[decide_eq_false (zje h (by rw[zgh];exact g))]
  repeat'(first|refine nxt ?_|((refine zqh fun K a=>?_);simp(disch:=omega)only[go_sem,Z0,↓reduceIte,z1n,z0f])|(refine zqd _ rfl ?_ ?_<;>intro b<;>(((try simp only[z05]at b);try omega)))|refine zqU ?_|(refine a _ ?_;clear a K))
  exact z01 rfl
 have f:(((txt w).drop k).take row.length).length=row.length:=by rw[Zf,Zd,zgh];omega
 repeat'(first|refine nxt ?_|((refine zqh fun K a=>?_);simp(disch:=omega)only[go_sem,Z0,↓reduceIte,z1n,z0f])|(refine zqd _ rfl ?_ ?_<;>intro b<;>(((try simp only[z05]at b);try omega)))|(refine a _ ?_;clear a K))
 (refine zqL (fun n e=>∃(j:_),n=row.length-j/\e.t 0=z0f w/\e.t 1=.int .i64 k/\e.t 2=z1n row/\e.t 7=.int .i64 j/\(j<=row.length)/\((((txt w).drop k).take row.length).take j=row.take j)) ?_ ?_);rintro n e ⟨j,rfl,o,p,l,m,q,d⟩;rotate_left
 ·(refine⟨_,0,rfl,?_⟩);simp(disch:=omega)only[go_sem,Z0,and_self,Zn,z1n,z0f]
  try simp
 by_cases r:j<row.length
 ·have c:(((txt w).drop k).take row.length)[j]'(by omega)=(w[k+j]'(by omega)).text:=by
   rw[List.getElem_take,List.getElem_drop,txt_get w (by omega)]
  have i:IntKind.i64.wrap ((k:Int)+j)=((k+j:Nat):Int):=by rw[zad (by omega)];omega
  repeat'(first|refine nxt ?_|((first|refine zqh fun K a=>?_|refine zqe (by decide+kernel) fun K a=>?_|refine zqr fun K a=>?_);simp(disch:=omega)only[go_sem,Z0,↓reduceIte,reduceCtorEq,Z2,o,p,l,m,z1n,z0f,i])|((first|refine zqd _ rfl (fun b=>?_) (fun b=>?_)|refine zqm _ rfl (fun b=>?_) (fun b=>?_))<;>(((try simp only[z05]at b);try omega)))|refine zqU ?_|(refine a _ ?_;clear a K))
  ·exact z01 (decide_eq_false (zph (k:=j) (by omega) f (by rw[c];assumption))).symm
  ·(refine⟨_,?_,j+1,rfl,?_⟩);rotate_left;simp(disch:=omega)only[go_sem,Z0,o,p,l,m,true_and,Z7,Za,z1n,z0f];rotate_left
   ·omega
   ·exact⟨by omega,z7z (by omega) f d (by rw[c];assumption)⟩
 ·repeat'(first|refine nxt ?_|((refine zqh fun K a=>?_);simp(disch:=omega)only[go_sem,Z0,↓reduceIte,l,m,z1n])|(refine zqd _ rfl ?_ ?_<;>intro b<;>(((try simp only[z05]at b);try omega)))|refine zqz ?_|refine zqU ?_|(refine a _ ?_;clear a K))
  exact z01 (decide_eq_true (zac (by omega) f d)).symm
theorem zu2(w:List Wd)(row:List ByteArray)(y:w.length<=1000000)(v:0<row.length)(u:row.length<=1000000):PC prog 92 [z0f w,z1n row] (z43 (z8m (txt w) row 0)):=by
 refine z14 2 (by simp only[pureD.pureL,z1q,z0g,Z3]) (z8c _) (zqzj [7] func92 rfl (by decide+kernel) rfl ?_)
 repeat'(first|((refine zqh fun K a=>?_);simp(disch:=omega)only[go_sem,Z0,↓reduceIte,reduceCtorEq,z1n,z0f])|refine nxt ?_|(refine a _ ?_;clear a K))
 (refine zqL (fun x g=>∃(i:Nat) (l:List Nat),x=w.length-i/\g.t 0=z0f w/\g.t 1=z1n row/\g.t 5=.osl 0 l.length/\g.t 6=.int .i64 i/\g.H 0=some (.row 3 l.length (l.map fun n:Nat=>D.int .i64 n))/\(i<=2000000)/\(1<=g.nx)/\(z8m (txt w) row 0=l++z8m (txt w) row i)/\(l.length<=i)) ?_ ?_);rintro x g ⟨i,l,rfl,j,p,q,k,c,z,A,d,B⟩;rotate_left
 ·(refine⟨_,0,[],rfl,?_⟩);simp(disch:=omega)only[go_sem,Z0,Z1,and_self,Zn,Ze,ZL,z1n,z0f]
  try exact⟨by omega,by omega⟩
 by_cases s:i<w.length
 ·have m:=pc_begins w i row y (by omega) v u;have e:i<(txt w).length:=by rw[zgh];exact s
  by_cases o:((txt w).drop i).take row.length=row
  ·rw[decide_eq_true o]at m;have h:=zto e v o;have r:(l++[i]).length=l.length+1:=by simp
   repeat'(first|refine nxt ?_|((first|refine zqh fun K a=>?_|refine zqr fun K a=>?_|refine zqs (m) ?_);simp(disch:=omega)only[go_sem,Z0,↓reduceIte,reduceCtorEq,Z2,Z1,Zb,j,p,q,k,c,z1n,z0f])|((first|refine zqd _ rfl (fun b=>?_) (fun b=>?_)|refine zqm _ rfl (fun b=>?_) (fun b=>?_))<;>(first|(cases b;done)|((try simp only[z05]at b);try omega)))|(refine a _ ?_;clear a K))
   (refine⟨_,?_,i+row.length,l++[i],rfl,?_⟩);rotate_left;simp(disch:=omega)only[go_sem,Z0,j,p,q,k,c,true_and,Z7,Zp,Zg,Ze,r,z1n,z0f];rotate_left
   ·omega
   ·refine⟨by omega,by omega,by rw[d,h];simp,by first|omega|(simp;omega)⟩
  ·rw[decide_eq_false o]at m;have h:=zw1 e o
   repeat'(first|refine nxt ?_|((first|refine zqh fun K a=>?_|refine zqr fun K a=>?_|refine zqs (m) ?_);simp(disch:=omega)only[go_sem,Z0,↓reduceIte,j,p,k,z1n,z0f])|((first|refine zqd _ rfl (fun b=>?_) (fun b=>?_)|refine zqm _ rfl (fun b=>?_) (fun b=>?_))<;>(first|(cases b;done)|((try simp only[z05]at b);try omega)))|(refine a _ ?_;clear a K))
   (refine⟨_,?_,i+1,l,rfl,?_⟩);rotate_left;simp(disch:=omega)only[go_sem,Z0,Z1,j,p,q,k,c,true_and,Z7,Za,z1n,z0f];rotate_left
   ·omega
   ·exact⟨by omega,by omega,by rw[d,h],by omega⟩
 ·repeat'(first|refine nxt ?_|((refine zqh fun K a=>?_);simp(disch:=omega)only[go_sem,Z0,↓reduceIte,j,q,k,z0f])|(refine zqd _ rfl ?_ ?_<;>intro b<;>(((try simp only[z05]at b);try omega)))|refine zqz ?_|refine zqU ?_|(refine a _ ?_;clear a K))
  have h:=zjd (w:=txt w) (row:=row) (i:=i) (by rw[zgh];omega);rw[h,Zm]at d;rw[d];exact z3j (z8j (cs:=l.map fun n:Nat=>D.int .i64 n) 0 c z7p zk3 (by simp) (z0x (f:=fun n:Nat=>D.int .i64 n) (fun _=>rfl) _))
theorem zm7(a b:List Wd)(n:a.length<=maxLen)(o:b.length<=maxLen):PC prog 52 [z0f a,z0f b] (.bool (decide (a=b))):=by
 unfold maxLen at n o;refine z14 1 (by simp only[pureD.pureL,z0g,Z3]) rfl (zqzj [] func52 rfl (by decide+kernel) rfl ?_)
 repeat'(first|refine nxt ?_|((refine zqh fun K c=>?_);simp(disch:=omega)only[go_sem,Z0,↓reduceIte,z0f])|(refine zqd _ rfl ?_ ?_<;>intro d<;>(((try simp only[z05]at d);try omega)))|refine zqU ?_|(refine c _ ?_;clear c K))
 ·exact z01 (decide_eq_false (fun h=>by subst h;contradiction)).symm
 ·have g:a.length=b.length:=by omega
  (refine zqL (fun i f=>∃(k:_),i=a.length-k/\f.t 0=z0f a/\f.t 1=z0f b/\f.t 5=.int .i64 k/\(k<=a.length)/\(a.take k=b.take k)) ?_ ?_);rintro i f ⟨k,rfl,j,l,m,p,e⟩;rotate_left
  ·(refine⟨_,0,rfl,?_⟩);simp(disch:=omega)only[go_sem,Z0,and_self,Zn,z0f]
   try simp
  repeat'(first|refine nxt ?_|((first|refine zqh fun K c=>?_|refine zqe (by decide+kernel) fun K c=>?_|refine zqr fun K c=>?_);simp(disch:=omega)only[go_sem,Z0,↓reduceIte,reduceCtorEq,Z2,j,l,m,z0f])|((first|refine zqd _ rfl (fun d=>?_) (fun d=>?_)|refine zqm _ rfl (fun d=>?_) (fun d=>?_))<;>(((try simp only[z05]at d);try omega)))|refine zqz ?_|refine zqU ?_|(refine c _ ?_;clear c K))
  ·exact z01 (decide_eq_false (zph (k:=k) (by omega) g (by assumption))).symm
  ·(refine⟨_,?_,k+1,rfl,?_⟩);rotate_left;simp(disch:=omega)only[go_sem,Z0,j,l,m,true_and,Z7,Za,z0f];rotate_left
   ·omega
   ·exact⟨by omega,z7z (by omega) g e (by assumption)⟩
  ·exact z01 (decide_eq_true (zac (by omega) g e)).symm
theorem zra:∀a:T,szB a=true->∀b:T,szB b=true->PC prog 10 [z0o a,z0o b] (.bool (decide (a=b))):=by
 refine z4a fun a ih hs b hb=>?_;obtain⟨a0,a1,_,a2,_,a3,a4⟩:=(z1k a).1 hs;obtain⟨b0,b1,_,b2,_,b3,b4⟩:=(z1k b).1 hb;have r1:=zm7 a.head b.head (by unfold maxLen;omega) (by unfold maxLen;omega);have r2:=zm7 a.words b.words (by unfold maxLen;omega) (by unfold maxLen;omega);refine z14 1 (by simp only[pureD.pureL,z02,Z3]) rfl (zqzj [] func10 rfl (by decide+kernel) rfl ?_)
 repeat'(first|refine nxt ?_|((first|refine zqh fun K hK=>?_|refine zqs (r1) ?_|refine zqs (r2) ?_);simp(disch:=omega)only[go_sem,Z0,↓reduceIte,reduceCtorEq,Z2,Z1])|(refine zqd _ rfl ?_ ?_<;>intro hc<;>(first|(cases hc;done)|((try simp only[z05]at hc);try omega)))|refine zqU ?_|(refine hK _ ?_;clear hK K)|(refine zqf (fun hb=>?_) (fun hb=>?_)<;>(have hb2:=hb;try simp only[z05]at hb2)<;>((first|have hb3:=eq_false hb2|have hb3:=eq_true hb2);simp(disch:=omega)only[go_sem,Z0,↓reduceIte,reduceCtorEq,Z2,hb3,z0l];clear hb hb3;try omega)))
 all_goals first|exact z01 (decide_eq_false (fun h=>by subst h;contradiction)).symm|skip
 have hl:a.kids.length=b.kids.length:=by omega
 (refine zqL (fun mz st=>∃(k:_),mz=a.kids.length-k/\st.t 2=.ptr 0 0/\st.t 3=.ptr 1 0/\st.t 5=.int .i64 k/\st.H 0=some (.box 27 (z08 a))/\st.H 1=some (.box 27 (z08 b))/\(k<=a.kids.length)/\(2<=st.nx)/\(a.kids.take k=b.kids.take k)) ?_ ?_);rintro mz st ⟨k,rfl,q2,q3,q5,qH0,qH1,qp0,qp1,qp2⟩;rotate_left
 ·(refine⟨_,0,rfl,?_⟩);simp(disch:=omega)only[go_sem,Z0,Z1,and_self,Zn]
  try simp
 by_cases hk:k<a.kids.length
 ·have hin:=ih a.kids[k] (Zl hk) (a4 _ (Zl hk)) b.kids[k] (b4 _ (Zl (by omega)))
  repeat'(first|refine nxt ?_|((first|refine zqh fun K hK=>?_|refine zqe (by decide+kernel) fun K hK=>?_|refine zqr fun K hK=>?_|refine zqt (hin) ?_);simp(disch:=omega)only[go_sem,Z0,↓reduceIte,reduceCtorEq,Z2,q2,q3,q5,qH0,qH1,z0l])|((first|refine zqd _ rfl (fun hc=>?_) (fun hc=>?_)|refine zqm _ rfl (fun hc=>?_) (fun hc=>?_))<;>(((try simp only[z05]at hc);try omega)))|refine zqU ?_|(refine hK _ ?_;clear hK K))
  ·exact z01 (decide_eq_false (fun h=>zph hk hl (by assumption) (congrArg T.kids h))).symm
  ·(refine⟨_,?_,k+1,rfl,?_⟩);rotate_left;simp(disch:=omega)only[go_sem,Z0,q2,q3,q5,qH0,qH1,true_and,Z7,Za];rotate_left
   ·omega
   ·exact⟨by omega,by omega,z7z hk hl qp2 (by assumption)⟩
 ·repeat'(first|refine nxt ?_|((refine zqh fun K hK=>?_);simp(disch:=omega)only[go_sem,Z0,↓reduceIte,reduceCtorEq,Z2,q2,q5,qH0,z0l])|(refine zqd _ rfl ?_ ?_<;>intro hc<;>(((try simp only[z05]at hc);try omega)))|refine zqz ?_|refine zqU ?_|(refine hK _ ?_;clear hK K))
  refine z01 (decide_eq_true ?_).symm;have hkk:=zac (by omega) hl qp2;rw[<-T.eta a,<-T.eta b,‹a.id=b.id›,‹a.kind=b.kind›,‹a.label=b.label›,‹a.head=b.head›,‹a.words=b.words›,hkk]
theorem oc_Mark23(l:List ByteArray)(B:l.length<=1000000)(a i:Int)(k:Nat)(A:k<=1000000000000):OC prog 38 [z1n l,.int .i64 a,.int .i64 i,.int .i64 k] [zjp (z1v l a i k)] (.osl 0 l.length):=by
 refine zi6 (by simp only[pureD.pureL,z1q,pureD,Z3]) rfl (fun o q=>by simp at q;subst q;exact z1z (fun _=>rfl) _) (zqzj [11] func38 rfl (by decide+kernel) rfl ?_)
 repeat'(first|refine nxt ?_|((refine zqh fun K b=>?_);simp(disch:=omega)only[go_sem,Z0,↓reduceIte,reduceCtorEq,Y2,z1n])|(refine b _ ?_;clear b K))
 (refine zqL (fun r d=>∃(j:_),r=l.length-j/\d.t 0=z1n l/\d.t 1=.int .i64 a/\d.t 2=.int .i64 i/\d.t 3=.int .i64 k/\d.t 9=.osl 0 j/\d.t 10=.int .i64 j/\d.H 0=some (.row 122 j ((z1v (l.take j) a i k).flatMap z1p))/\(j<=l.length)/\(1<=d.nx)) ?_ ?_);rintro r d ⟨j,rfl,n,s,u,v,p,e,c,y,z⟩;rotate_left
 ·(refine⟨_,0,rfl,?_⟩);simp(disch:=omega)only[go_sem,Z0,Z1,true_and,and_true,and_self,Zn,z1n]
  try simp[z1v]
 by_cases f:j<l.length
 ·have m:z1v (l.take (j+1)) a i k=z1v (l.take j) a i k++[⟨l[j],⟨a,i,((k+j:Nat):Int)⟩⟩]:=by
   rw[Zo f,zg6,Zf,ZT (by omega)]
  have x:IntKind.i64.wrap ((k:Int)+j)=((k+j:Nat):Int):=by rw[zad (by omega)];omega
  repeat'(first|refine nxt ?_|((first|refine zqh fun K b=>?_|refine zqr fun K b=>?_);simp(disch:=omega)only[go_sem,Z0,↓reduceIte,reduceCtorEq,Z2,Y2,Z1,n,s,u,v,p,e,c,z1n,x])|(refine zqd _ rfl ?_ ?_<;>intro g<;>(((try simp only[z05]at g);try omega)))|(refine b _ ?_;clear b K))
  (refine⟨_,?_,j+1,rfl,?_⟩);rotate_left;simp(disch:=omega)only[go_sem,Z0,n,s,u,v,p,e,c,true_and,Z7,Za,Zj,Y8,ZE,Zm,m,z1p];rotate_left
  ·omega
  ·omega
 ·repeat'(first|refine nxt ?_|((refine zqh fun K b=>?_);simp(disch:=omega)only[go_sem,Z0,↓reduceIte,n,p,e,z1n])|(refine zqd _ rfl ?_ ?_<;>intro g<;>(((try simp only[z05]at g);try omega)))|refine zqz ?_|refine zqU ?_|(refine b _ ?_;clear b K))
  have h:j=l.length:=by omega
  subst h;rw[ZA]at c;refine⟨fun _=>0,fun i j w f _=>by simp at w f;omega,?_,fun j f=>?_⟩
  ·(simp(disch:=omega)only[go_sem,Z0,renD])
  ·obtain rfl:j=0:=by simp at f;omega
   (simp(disch:=omega)only[go_sem,c,zjp,z2f])
namespace Tr
theorem zta{w:List Wd}{k:Nat}{put:Bool}{new:List ByteArray}{a j nth:Int}:∀(q:List Nat) (i o m:Nat),(zjf w k put new a j nth q i o m).length<=(q.length+1)*(2*w.length+new.length)
 |[],i,o,m=>by
  rw[zjf,Zd];simp only[Zx];omega
 |p::q,i,o,m=>by
  have b:=zta (w:=w) (k:=k) (put:=put) (new:=new) (a:=a) (j:=j) (nth:=nth) q (i+1) o m;have c:=zta (w:=w) (k:=k) (put:=put) (new:=new) (a:=a) (j:=j) (nth:=nth) q (i+1) (p+k) (m+new.length);have e:(q.length+1+1)*(2*w.length+new.length)=(q.length+1)*(2*w.length+new.length)+(2*w.length+new.length):=by rw[ZO (q.length+1),ZP]
  rw[zjf,Zq,e];split
  ·omega
  ·have d:((w.take p).drop o).length<=w.length:=by rw[Zd,Zf];omega
   have f:(if put=true then (w.take (p+k)).drop p else []).length<=w.length:=by
    split
    ·rw[Zd,Zf];omega
    ·simp
   simp only[Z6,z2f];omega
def ztb(w:List Wd)(k:Nat)(put:Bool)(new:List ByteArray)(a j nth:Int)(l:List Nat)(i o m:Nat)(b:List Wd):Prop:=zjf w k put new a j nth l 0 0 0=b++zjf w k put new a j nth (l.drop i) i o m/\(∀p∈l.drop i,o<=p)/\o<=w.length/\m<=i*new.length
theorem edit_pass{w:List Wd}{k:Nat}{put:Bool}{new:List ByteArray}{a j nth:Int}{l:List Nat}{i o m:Nat}{b:List Wd}(h:ztb w k put new a j nth l i o m b)(hi:i<l.length)(f:¬nth=0/\¬nth=(i:Int)+1):ztb w k put new a j nth l (i+1) o m b:=by
 obtain⟨c,d,e,n⟩:=h;rw[Zk hi]at c d;rw[zjf,if_pos f]at c;exact⟨c,fun p g=>d p (ZJ _ g),e,by rw[ZO];omega⟩
theorem edit_take{w:List Wd}{k:Nat}{put:Bool}{new:List ByteArray}{a j nth:Int}{l:List Nat}{i o m:Nat}{c:List Wd}(h:ztb w k put new a j nth l i o m c)(hi:i<l.length)(q:¬(¬nth=0/\¬nth=(i:Int)+1))(r:l.Pairwise (fun a b=>a+k<=b))(n:∀p∈l,p+k<=w.length) :
  ztb w k put new a j nth l (i+1) (l[i]+k) (m+new.length) (c++(w.take l[i]).drop o++(if put=true then (w.take (l[i]+k)).drop l[i] else [])++z1v new a j m)/\o<=l[i]/\l[i]+k<=w.length:=by
 obtain⟨d,f,s,t⟩:=h;have g:=n _ (Zl hi);have e:=r.sublist (Y9 i l);rw[Zk hi]at d f e;rw[zjf,if_neg q]at d;rw[Y4]at e;refine⟨⟨?_,e.1,g,by rw[ZO,ZP];omega⟩,f _ (List.mem_cons_self ..),g⟩;rw[d];simp only[Zw]
theorem edit_acc{w:List Wd}{k:Nat}{put:Bool}{new:List ByteArray}{a j nth:Int}{l:List Nat}{i o m:Nat}{b:List Wd}(h:ztb w k put new a j nth l i o m b):b.length<=(l.length+1)*(2*w.length+new.length):=by
 have c:=zta (w:=w) (k:=k) (put:=put) (new:=new) (a:=a) (j:=j) (nth:=nth) l 0 0 0;rw[h.1,Z6]at c;omega
end Tr
set_option maxHeartbeats 16000000 in
theorem pc_Edit23(w:List Wd)(x:It)(a j:Int)(hw:w.length<=1000)(ho:x.old.length<=1000)(a5:x.new.length<=1000)(hk:x.kind=2/\0<x.old.length \/ x.kind=3)(hn:0<=x.nth)(b3:x.nth<=1000) :
  PC prog 37 [z0f w,zfp x,.int .i64 a,.int .i64 j] (.tup [if editE w x a j=0 then z0f (z60 w x a j) else .nil,.int .i64 (editE w x a j)]):=by
 refine z14 5 (by simp only[pureD.pureL,z0g,z5p,pureD,Z3]) (by split<;>simp only[pureD,pureD.pureL,z0g,Z3]) (zqzj [50] func37 rfl (by decide+kernel) rfl ?_);have a7:w.length=(txt w).length:=(zgh w).symm
 by_cases h3:x.kind=3/\x.old.length=0
 ·have c1:=oc_Mark23 x.new (by omega) a j 0 (by omega);have I:(z1v x.new a j 0).length=x.new.length:=z2f _ _ _ _;unfold editE z60;rw[if_pos h3,if_pos h3];obtain⟨y,o0⟩:=h3
  by_cases k:256<(z1v x.new a j 0++w).length
  ·rw[if_pos k,if_neg (by decide)];rw[Z6,z2f]at k
   repeat'(first|refine nxt ?_|((first|refine zqh fun K b=>?_|refine zcx (c1) ?_);simp(disch:=omega)only[go_sem,Z0,↓reduceIte,reduceCtorEq,Z2,z1n,z0f,zjp,y,o0,I,z1a])|(refine zqd _ rfl ?_ ?_<;>intro c<;>(first|(cases c;done)|((try simp only[z05]at c);try omega)))|refine zqU ?_|(refine b _ ?_;clear b K))
   exact z06 rfl (XW _)
  ·rw[if_neg k,if_pos rfl];rw[Z6,z2f]at k
   repeat'(first|refine nxt ?_|((first|refine zqh fun K b=>?_|refine zcx (c1) ?_);simp(disch:=omega)only[go_sem,Z0,↓reduceIte,reduceCtorEq,Z2,z1n,z0f,zjp,y,o0,I,z1a])|(refine zqd _ rfl ?_ ?_<;>intro c<;>(first|(cases c;done)|((try simp only[z05]at c);try omega)))|refine zqU ?_|(refine b _ ?_;clear b K))
   refine z3j (zeu 4 ?_ (z00 (z1j (f:=z1p) (l:=z1v x.new a j 0++w) 2 (by rw[Z6,I]) ?_ z64 z7d (fun _=>rfl) (fun _=>rfl)) (z00 (z0e _ rfl) z0i)))
   ·rfl
   ·(simp(disch:=omega)only[go_sem,Z0]);rw[Zj]
 have Y:0<x.old.length:=by
  rcases hk with ⟨_,h⟩|h
  ·exact h
  ·rcases Nat.eq_zero_or_pos x.old.length with h0|h0
   ·exact(h3 ⟨h,h0⟩).elim
   ·exact h0
 have c2:=zu2 w x.old (by omega) Y (by omega);obtain⟨i1,i2,i3⟩:=zpy (w:=txt w) (row:=x.old) Y (txt w).length 0 (by omega);unfold editE z60;rw[if_neg h3,if_neg h3];generalize z8m (txt w) x.old 0=l at *
 by_cases he:l.length=0 \/ (l.length:Int)<x.nth
 ·rw[if_pos he,if_neg (by decide)]
  by_cases U:l.length=0
  ·by_cases y:x.kind=3
   ·have o0:¬x.old.length=0:=by omega
    repeat'(first|refine nxt ?_|((first|refine zqh fun K b=>?_|refine zqs (c2) ?_);simp(disch:=omega)only[go_sem,Z0,↓reduceIte,reduceCtorEq,Z2,z1n,z0f,z43,y,U])|(refine zqd _ rfl ?_ ?_<;>intro c<;>(first|(cases c;done)|((try simp only[z05]at c);try omega)))|refine zqU ?_|(refine b _ ?_;clear b K))
    exact z06 rfl (XW _)
   ·repeat'(first|refine nxt ?_|((first|refine zqh fun K b=>?_|refine zqs (c2) ?_);simp(disch:=omega)only[go_sem,Z0,↓reduceIte,reduceCtorEq,Z2,z1n,z0f,z43,y,U])|(refine zqd _ rfl ?_ ?_<;>intro c<;>(first|(cases c;done)|((try omega))))|refine zqU ?_|(refine b _ ?_;clear b K))
    exact z06 rfl (XW _)
  ·have a3:(l.length:Int)<x.nth:=he.resolve_left U
   by_cases y:x.kind=3
   ·have o0:¬x.old.length=0:=by omega
    repeat'(first|refine nxt ?_|((first|refine zqh fun K b=>?_|refine zqs (c2) ?_);simp(disch:=omega)only[go_sem,Z0,↓reduceIte,reduceCtorEq,Z2,z1n,z0f,z43,y])|(refine zqd _ rfl ?_ ?_<;>intro c<;>(((try simp only[z05]at c);try omega)))|refine zqU ?_|(refine b _ ?_;clear b K)|(refine zqf (fun k=>?_) (fun k=>?_)<;>(have d:=k;try simp only[z05]at d)<;>((first|have e:=eq_false d|have e:=eq_true d);simp(disch:=omega)only[go_sem,Z0,↓reduceIte,reduceCtorEq,Z2,e];clear k e;try omega)))
    exact z06 rfl (XW _)
   ·repeat'(first|refine nxt ?_|((first|refine zqh fun K b=>?_|refine zqs (c2) ?_);simp(disch:=omega)only[go_sem,Z0,↓reduceIte,reduceCtorEq,Z2,z1n,z0f,z43,y])|(refine zqd _ rfl ?_ ?_<;>intro c<;>(first|(cases c;done)|((try simp only[z05]at c);try omega)))|refine zqU ?_|(refine b _ ?_;clear b K)|(refine zqf (fun k=>?_) (fun k=>?_)<;>(have d:=k;try simp only[z05]at d)<;>((first|have e:=eq_false d|have e:=eq_true d);simp(disch:=omega)only[go_sem,Z0,↓reduceIte,reduceCtorEq,Z2,e];clear k e;try omega)))
    exact z06 rfl (XW _)
 rw[if_neg he];rw[not_or]at he;obtain⟨U,a3⟩:=he;have a2:∀p∈l,p+x.old.length<=w.length:=fun p hp=>by rw[a7];exact(i1 p hp).2
 have a1:ztb w x.old.length (decide (x.kind=3)) x.new a j x.nth l 0 0 0 []:=⟨by simp,fun p _=>ZF _,ZF _,ZF _⟩
 obtain⟨F,hF⟩:∃F,F=zjf w x.old.length (decide (x.kind=3)) x.new a j x.nth l 0 0 0:=⟨_,rfl⟩
 rw[<-hF];have b0:l.length<=1000:=by omega
 have hB:(l.length+1)*(2*w.length+x.new.length)<=10000000:=ZS (ZY (show l.length+1<=1001 by omega) (show 2*w.length+x.new.length<=3000 by omega)) (by decide)
 repeat'(first|refine nxt ?_|((refine z09 (N:=1) rfl fun K b=>?_);simp(disch:=omega)only[go_sem,Z0,↓reduceIte])|(refine b _ ?_;clear b K))
 (refine z5o (fun z=>z.t 0=z0f w/\z.t 2=.int .i64 a/\z.t 3=.int .i64 j/\z.t 5=.ptr 0 0/\z.H 0=some (.box 43 (z0t x))/\z.nx=1) ?_ ?_);rotate_left;(rintro z ⟨p0,p2,p3,p5,Z,a8⟩);rotate_left
 ·by_cases y:x.kind=3
  ·have o0:¬x.old.length=0:=by omega
   repeat'(first|((refine zqh fun K b=>?_);simp(disch:=omega)only[go_sem,Z0,↓reduceIte,reduceCtorEq,Z2,z1n,y])|((refine zqm _ rfl (fun c=>?_) (fun c=>?_))<;>(((try simp only[z05]at c);try omega)))|refine nxt ?_|(refine b _ ?_;clear b K))
   (refine z5s ?_);simp(disch:=omega)only[go_sem,Z0,and_self,z0f]
  ·repeat'(first|((refine zqh fun K b=>?_);simp(disch:=omega)only[go_sem,Z0,↓reduceIte,reduceCtorEq,Z2,y])|((refine zqm _ rfl (fun c=>?_) (fun c=>?_))<;>(first|(cases c;done)|((try omega))))|refine nxt ?_|(refine b _ ?_;clear b K))
   (refine z5s ?_);simp(disch:=omega)only[go_sem,Z0,and_self,z0f]
 repeat'(first|refine nxt ?_|((first|refine zqh fun K b=>?_|refine zqs (c2) ?_);simp(disch:=omega)only[go_sem,Z0,↓reduceIte,reduceCtorEq,Z2,Y2,p0,p5,Z,a8,z1n,z0f,z43])|(refine zqd _ rfl ?_ ?_<;>intro c<;>(((try simp only[z05]at c);try omega)))|(refine b _ ?_;clear b K)|(refine zqf (fun k=>?_) (fun k=>?_)<;>(have d:=k;try simp only[z05]at d)<;>((first|have e:=eq_false d|have e:=eq_true d);simp(disch:=omega)only[go_sem,Z0,↓reduceIte,reduceCtorEq,Z2,e,p5,Z];clear k e;try omega)))
 (refine zqL (fun mz z=>∃(i:Nat) (o:Nat) (m:Nat) (n:List Wd),mz=l.length-i/\z.t 0=z0f w/\z.t 2=.int .i64 a/\z.t 3=.int .i64 j/\z.t 5=.ptr 0 0/\z.t 11=z43 l/\z.t 12=.osl 1 n.length/\z.t 13=.int .i64 o/\z.t 14=.int .i64 m/\z.t 15=.int .i64 i/\z.H 0=some (.box 43 (z0t x))/\z.H 1=some (.row 122 n.length (n.flatMap z1p))/\(i<=l.length)/\(2<=z.nx)/\(ztb w x.old.length (decide (x.kind=3)) x.new a j x.nth l i o m n)) ?_ ?_);rintro mz z ⟨i,o,m,n,rfl,P,W,X,J,q,u,v,E,g,r,s,b7,b8,Q⟩;rotate_left
 ·(refine⟨_,0,0,0,[],rfl,?_⟩);simp(disch:=omega)only[go_sem,Z0,Z1,p0,p2,p3,p5,Z,true_and,Zn,ZE,z0f,z43];exact a1
 have a9:=edit_acc Q
 by_cases hi:i<l.length
 ·by_cases O:¬x.nth=0/\¬x.nth=(i:Int)+1
  ·have a6:=edit_pass Q hi O
   repeat'(first|refine nxt ?_|((first|refine zqh fun K b=>?_|refine zqr fun K b=>?_);simp(disch:=omega)only[go_sem,Z0,↓reduceIte,reduceCtorEq,Z2,J,q,g,r,z43,O])|(refine zqd _ rfl ?_ ?_<;>intro c<;>(first|(cases c;done)|((try simp only[z05]at c);try omega)))|refine zqz ?_|(refine b _ ?_;clear b K))
   (refine⟨_,?_,i+1,o,m,n,rfl,?_⟩);rotate_left;simp(disch:=omega)only[go_sem,Z0,P,W,X,J,q,u,v,E,g,r,s,true_and,Z7,Za,z0f,z43];rotate_left
   ·omega
   ·exact⟨by omega,by omega,a6⟩
  ·obtain⟨G,b4,b5⟩:=edit_take Q hi O i2 a2;obtain⟨A,hA⟩:∃A,A=(w.take l[i]).drop o:=⟨_,rfl⟩
   obtain⟨B,R⟩:∃B,B=(w.take (l[i]+x.old.length)).drop l[i]:=⟨_,rfl⟩
   rw[<-hA,<-R]at G;have lA:A.length<=1000:=by rw[hA,Zd,Zf];omega
   have lB:B.length<=1000:=by rw[R,Zd,Zf];omega
   have b2:m<=1000000:=ZS Q.2.2.2 (ZS (ZY (show i<=1000 by omega) a5) (by decide));have c3:=zfs x.new (by omega) a j m (by omega);have I:(z1v x.new a j m).length=x.new.length:=z2f _ _ _ _;have hT:((l[i]:Int)+x.old.length).toNat=l[i]+x.old.length:=by omega
   have b6:(l[i]:Int)+x.old.length=((l[i]+x.old.length:Nat):Int):=by omega
   by_cases y:x.kind=3
   ·rw[decide_eq_true y,if_pos rfl]at G
    by_cases L:x.nth=0
    ·repeat'(first|refine nxt ?_|((first|refine zqh fun K b=>?_|refine zqe (by decide+kernel) fun K b=>?_|refine zqr fun K b=>?_|refine zqs (c3) ?_);simp(disch:=omega)only[go_sem,Z0,↓reduceIte,reduceCtorEq,Z2,P,W,X,J,q,u,v,E,g,r,s,z1n,z0f,z43,L,y,hT,<-hA,<-R,z1a,I])|(refine zqd _ rfl ?_ ?_<;>intro c<;>(first|(cases c;done)|((try simp only[z05]at c);try omega)))|(refine b _ ?_;clear b K))
     (refine⟨_,?_,i+1,l[i]+x.old.length,m+x.new.length,n++A++B++z1v x.new a j m,rfl,?_⟩);rotate_left;simp(disch:=omega)only[go_sem,Z0,P,W,X,J,q,u,v,E,g,r,s,true_and,Z7,Za,Zj,z0f,z43,I,Z6];rotate_left
     ·omega
     ·exact⟨by omega,by omega,by rw[decide_eq_true y];exact G⟩
    ·have M:x.nth=(i:Int)+1:=Ye fun h=>O ⟨L,h⟩
     repeat'(first|refine nxt ?_|((first|refine zqh fun K b=>?_|refine zqe (by decide+kernel) fun K b=>?_|refine zqr fun K b=>?_|refine zqs (c3) ?_);simp(disch:=omega)only[go_sem,Z0,↓reduceIte,reduceCtorEq,Z2,P,W,X,J,q,u,v,E,g,r,s,z1n,z0f,z43,M,y,hT,<-hA,<-R,z1a,I])|(refine zqd _ rfl ?_ ?_<;>intro c<;>(first|(cases c;done)|((try simp only[z05]at c);try omega)))|(refine b _ ?_;clear b K)|(refine zqf (fun k=>?_) (fun k=>?_)<;>(have d:=k;try simp only[z05]at d)<;>((first|have e:=eq_false d|have e:=eq_true d);simp(disch:=omega)only[go_sem,Z0,↓reduceIte,reduceCtorEq,Z2,e,J,g,r,M];clear k e;try omega)))
     (refine⟨_,?_,i+1,l[i]+x.old.length,m+x.new.length,n++A++B++z1v x.new a j m,rfl,?_⟩);rotate_left;simp(disch:=omega)only[go_sem,Z0,P,W,X,J,q,u,v,E,g,r,s,true_and,Z7,Za,Zj,z0f,z43,I,Z6];rotate_left
     ·omega
     ·exact⟨by omega,by omega,by rw[decide_eq_true y];exact G⟩
   ·rw[decide_eq_false y,if_neg (by decide),Zm]at G
    by_cases L:x.nth=0
    ·repeat'(first|refine nxt ?_|((first|refine zqh fun K b=>?_|refine zqe (by decide+kernel) fun K b=>?_|refine zqr fun K b=>?_|refine zqs (c3) ?_);simp(disch:=omega)only[go_sem,Z0,↓reduceIte,reduceCtorEq,Z2,P,W,X,J,q,u,v,E,g,r,s,z1n,z0f,z43,L,y,<-hA,z1a,I])|(refine zqd _ rfl ?_ ?_<;>intro c<;>(first|(cases c;done)|((try simp only[z05]at c);try omega)))|(refine b _ ?_;clear b K))
     (refine⟨_,?_,i+1,l[i]+x.old.length,m+x.new.length,n++A++z1v x.new a j m,rfl,?_⟩);rotate_left;simp(disch:=omega)only[go_sem,Z0,P,W,X,J,q,u,v,E,g,r,s,true_and,Z7,Za,Zj,z0f,z43,I,Z6];rotate_left
     ·omega
     ·exact⟨by omega,by omega,by rw[decide_eq_false y];exact G⟩
    ·have M:x.nth=(i:Int)+1:=Ye fun h=>O ⟨L,h⟩
     repeat'(first|refine nxt ?_|((first|refine zqh fun K b=>?_|refine zqe (by decide+kernel) fun K b=>?_|refine zqr fun K b=>?_|refine zqs (c3) ?_);simp(disch:=omega)only[go_sem,Z0,↓reduceIte,reduceCtorEq,Z2,P,W,X,J,q,u,v,E,g,r,s,z1n,z0f,z43,M,y,<-hA,z1a,I])|(refine zqd _ rfl ?_ ?_<;>intro c<;>(first|(cases c;done)|((try simp only[z05]at c);try omega)))|(refine b _ ?_;clear b K)|(refine zqf (fun k=>?_) (fun k=>?_)<;>(have d:=k;try simp only[z05]at d)<;>((first|have e:=eq_false d|have e:=eq_true d);simp(disch:=omega)only[go_sem,Z0,↓reduceIte,reduceCtorEq,Z2,e,J,g,r,M];clear k e;try omega)))
     (refine⟨_,?_,i+1,l[i]+x.old.length,m+x.new.length,n++A++z1v x.new a j m,rfl,?_⟩);rotate_left;simp(disch:=omega)only[go_sem,Z0,P,W,X,J,q,u,v,E,g,r,s,true_and,Z7,Za,Zj,z0f,z43,I,Z6];rotate_left
     ·omega
     ·exact⟨by omega,by omega,by rw[decide_eq_false y];exact G⟩
 ·obtain⟨g1,g2,g3,g4⟩:=Q;rw[ZB (by omega),<-hF]at g1;have g1:F=n++w.drop o:=g1;obtain⟨C,hC⟩:∃C,C=w.drop o:=⟨_,rfl⟩
  rw[<-hC]at g1;have lC:C.length<=1000:=by rw[hC,Zd];omega
  have a4:F.length=n.length+C.length:=by rw[g1,Z6]
  have a0:(o:Int)<=w.length:=by omega
  by_cases k:256<F.length
  ·rw[if_pos k,if_neg (by decide)]
   repeat'(first|refine nxt ?_|((refine zqh fun K b=>?_);simp(disch:=omega)only[go_sem,Z0,↓reduceIte,reduceCtorEq,Z2,P,q,u,v,g,s,z0f,z43,a0,<-hC,z1a])|(refine zqd _ rfl ?_ ?_<;>intro c<;>(((try simp only[z05]at c);try omega)))|refine zqz ?_|refine zqU ?_|(refine b _ ?_;clear b K))
   exact z06 rfl (XW _)
  ·rw[if_neg k,if_pos rfl]
   repeat'(first|refine nxt ?_|((refine zqh fun K b=>?_);simp(disch:=omega)only[go_sem,Z0,↓reduceIte,reduceCtorEq,Z2,P,q,u,v,g,s,z0f,z43,a0,<-hC,z1a])|(refine zqd _ rfl ?_ ?_<;>intro c<;>(((try simp only[z05]at c);try omega)))|refine zqz ?_|refine zqU ?_|(refine b _ ?_;clear b K))
   refine z3j (zeu 4 ?_ (z00 (z1j (f:=z1p) (l:=F) 2 a4 ?_ z64 z7d (fun _=>rfl) (fun _=>rfl)) (z00 (z0e _ rfl) z0i)))
   ·rfl
   ·(simp(disch:=omega)only[go_sem,s]);rw[g1,Zj]
theorem zyx(a i:Int)(t:T)(d:szB t=true)(e:cntT t<=100000):PC prog 85 [z0o t,.int .i64 a,.int .i64 i] (z0o (z39 a i t)):=by
 have f:=wc_le t d;have b:=z002 a i t d 1 0 (by omega) (by omega);refine z14 3 (by simp only[pureD.pureL,z02,pureD,Z3]) (z02 _) (zqzj [] func85 rfl (by decide+kernel) rfl ?_);rw[show Tryz.f85.results.toList=[.cell 6 27] from rfl];unfold z39;generalize z1x a i t 1 0=r at b⊢;obtain⟨x,p,q⟩:=r
 repeat'(first|((first|refine zqh fun K c=>?_|refine zqs (b) ?_);simp(disch:=omega)only[go_sem,Z0,↓reduceIte,Z2,Z1])|refine nxt ?_|refine zqu (by(simp(disch:=omega)only[go_sem,Z0,↓reduceIte,Z1]);rfl) rfl ?_|(refine c _ ?_;clear c K))
 exact z06 (z02 _) (XW _)
namespace Tr
theorem zrf{u x:T}:((idsT x).any fun i=>(z07 i u).2)=(z0c x).any fun k=>decide (k.id∈idsT u):=by
 unfold idsT;rw[Yt]
 congr 1
 funext k
 show (z07 k.id u).2=_;rw[z1y];rfl
end Tr
set_option maxHeartbeats 16000000 in
theorem zu8(u:T)(d5:standsT u=true)(hz:szB u=true)(b:cntT u<=1100)(id:Idv)(hm:id∈idsT u)(d:EIt)(hw:0<=d.it.wh/\d.it.wh<=3)(z1:szB d.it.unit=true)(z2:cntT d.it.unit<=1000)(z3:depT d.it.unit<=1000) :
  PC prog 31 [z0o u,z0z id,za4 d] (.tup [z0o (zey u id d.it.wh (z39 d.act d.item d.it.unit)),.int .i64 (z99 u id d.it.wh (z39 d.act d.item d.it.unit))]):=by
 obtain⟨s1,s2,s3,s4,s5,s6⟩:=(z18 u).1 d5;have c1:=zd2 id u hz (by omega);have c2:=ze3 id u hz (by omega);have c3:=zyx d.act d.item d.it.unit z1 (by omega);have y1:szB (z39 d.act d.item d.it.unit)=true:=zvq _ _ _ z1 1 0;have y2:cntT (z39 d.act d.item d.it.unit)<=1000:=by unfold z39;rw[zep];exact z2
 have y3:depT (z39 d.act d.item d.it.unit)<=1000:=by unfold z39;rw[zj8];exact z3
 generalize hx:z39 d.act d.item d.it.unit=x at *;have d3:z7n id u=((z3i id u).length:Int):=deep_in hm;have d2:∀k,((z3i k u).length:Int)<=8:=fun k=>by
  unfold z3i;have:=z9c k u;rw[Yi,Zi,Yh];omega
 have b2:∀k,szB (z07 k u).1=true:=fun k=>z9g k u hz;refine z14 3 (by simp only[pureD.pureL,z02,za5,Z3];rfl) (by simp only[pureD,pureD.pureL,z02,Z3]) (zqzj [3000110,3000113,3000115,5000116] func31 rfl (by decide+kernel) rfl ?_);rw[show Tryz.f31.results.toList=[.cell 6 27,.tmp 7] from rfl]
 repeat'(first|refine nxt ?_|((first|refine z09 (N:=999) rfl fun K a=>?_|refine zqs (c1) ?_);simp(disch:=omega)only[go_sem,Z0,↓reduceIte,reduceCtorEq,Z2,Z1,z0l])|(refine a _ ?_;clear a K))
 (refine z6d (fun c=>c.t 3=.ptr 0 0/\c.t 4=.ptr 1 0/\c.t 5=.ptr 2 0/\c.t 6=.ptr 3 0/\c.t 8=.ptr 4 0/\c.t 9=.int .i64 (z7n id u)/\c.t 10=.int .i64 (if d.it.wh=0 then 0 else ((z07 id u).1.kids.length:Int))/\c.H 0=some (.box 27 (z08 u))/\c.H 1=some (.box 23 (z0a id))/\c.H 2=some (.box 45 (z0w d))/\c.H 3=some (.box 27 [.int .i64 0,.int .i64 0,.int .i64 0,.int .i64 0,.str Zu,.nil,.nil,.nil])/\c.H 4=some (.box 27 (z08 (z07 id u).1))/\c.nx=5) ?_ ?_);rotate_left;(rintro c ⟨j3,j4,X,j6,j8,j9,W,B,C,p,G,I,Y⟩);rotate_left
 ·repeat'(first|((refine zqr fun K a=>?_);simp(disch:=omega)only[go_sem])|((refine zqm _ rfl (fun b=>?_) (fun b=>?_))<;>(((try simp only[z05]at b);try omega)))|refine nxt ?_|(refine a _ ?_;clear a K))
  all_goals ((refine z5s ?_);simp(disch:=omega)only[go_sem,Z0,↓reduceIte,and_self,b,z0a])
 obtain⟨P,M⟩:∃P,P=(z07 (z51 u id d.it.wh) u).1:=⟨_,rfl⟩
 obtain⟨n,hn⟩:∃n,n=zex u id d.it.wh:=⟨_,rfl⟩
 obtain⟨dp,s⟩:∃dp,dp=(z3i (z51 u id d.it.wh) u).length:=⟨_,rfl⟩
 obtain⟨R,hR⟩:∃R:T×Int,R=(zey u id d.it.wh x,z99 u id d.it.wh x):=⟨_,rfl⟩
 rw[show zey u id d.it.wh x=R.1 from by rw[hR],show z99 u id d.it.wh x=R.2 from by rw[hR]];have d1:zer d.it.wh=true->u.id=id->R=(u,9):=fun v h2=>by
  have he:z99 u id d.it.wh x=9:=by unfold z99;rw[if_pos ⟨v,h2⟩]
  rw[hR,zey,he];rfl
 (refine z6d (fun c=>c.t 3=.ptr 0 0/\c.t 4=.ptr 1 0/\c.t 5=.ptr 2 0/\c.t 6=.ptr 3 0/\c.t 8=.ptr 4 0/\c.t 9=.int .i64 dp/\c.t 10=.int .i64 n/\c.H 0=some (.box 27 (z08 u))/\c.H 1=some (.box 23 (z0a id))/\c.H 2=some (.box 45 (z0w d))/\c.H 3=some (.box 27 [.int .i64 0,.int .i64 0,.int .i64 0,.int .i64 0,.str Zu,.nil,.nil,.nil])/\c.H 4=some (.box 27 (z08 P))/\c.nx=5/\(¬(zer d.it.wh=true/\u.id=id))/\(n<=P.kids.length)) ?_ ?_);rotate_left;(rintro c ⟨k3,k4,k5,k6,k8,k9,d6,E,e8,Z,w,J,a0,d7,d8⟩);rotate_left
 ·by_cases o:zer d.it.wh=true
  ·have f:d.it.wh=2 \/ d.it.wh=3:=of_decide_eq_true o
   by_cases v:u.id=id
   ·rw[d1 o v];have Q:decide (id=u.id)=true:=decide_eq_true v.symm
    repeat'(first|refine nxt ?_|((refine zqh fun K a=>?_);simp(disch:=omega)only[go_sem,Z0,↓reduceIte,reduceCtorEq,Z2,Z1,j3,j4,X,j6,B,C,p,G,Y,z0a,Q])|((first|refine zqd _ rfl (fun b=>?_) (fun b=>?_)|refine zqm _ rfl (fun b=>?_) (fun b=>?_))<;>(first|(cases b;done)|((try simp only[z05]at b);try omega)))|refine zqu (by(simp(disch:=omega)only[go_sem,Z0,↓reduceIte,Z1,j6,G]);rfl) rfl ?_|(refine a _ ?_;clear a K)|(refine zqf (fun o=>?_) (fun o=>?_)<;>(have f:=o;try simp only[z05]at f)<;>((first|have m:=eq_false f|have m:=eq_true f);simp(disch:=omega)only[go_sem,Z0,↓reduceIte,reduceCtorEq,Z2,m,X,p];clear o m;try omega)))
    all_goals exact z06 (by simp only[pureD,pureD.pureL,z04,Z3]) (XW _)
   ·have Q:decide (id=u.id)=false:=decide_eq_false (fun e=>v e.symm);obtain⟨q,l,y,r,e1,e2,e3,e4,e5,n1,n2,e6,_⟩:=zdw s4 v hm;have F:z51 u id d.it.wh=(z3c id u).1:=by unfold z51;rw[if_pos o]
    rw[zig s4 v hm,<-F,<-M,<-s,e1]at c2;have e7:l.length<=1000000:=by
     have h2:=((z1k _).1 (b2 q.id)).2.2.2.2.2.1;rw[e4]at h2;have h2:(l++y::r).length<=1000000:=h2;rw[Z6]at h2;omega
    have A:n=l.length+(if d.it.wh=2 then 1 else 0):=by rw[hn,zex,if_pos o,e1];simp only[ZG]
    have b9:P.kids=l++y::r:=by
     rw[M,F,e1];show (z07 q.id u).1.kids=_;rw[e4];rfl
    have e0:P.kids.length=l.length+(1+r.length):=by rw[b9,Z6,Zq];omega
    have b3:z1d (z08 (z07 id u).1) 0 (z08 P)=z08 P:=z2d _ _ (by rw[z0h,z0h]);rcases f with h2|h2
    ·rw[if_pos h2]at A
     repeat'(first|refine nxt ?_|((first|refine zqh fun K a=>?_|refine zqr fun K a=>?_|refine zqs (c2) ?_);simp(disch:=omega)only[go_sem,Z0,↓reduceIte,reduceCtorEq,Z2,Z1,Z9,j3,j4,X,j8,W,B,C,p,I,Y,z0a,Q,h2])|((first|refine zqd _ rfl (fun b=>?_) (fun b=>?_)|refine zqm _ rfl (fun b=>?_) (fun b=>?_))<;>(first|(cases b;done)|((try omega))))|(refine a _ ?_;clear a K))
     (refine z5s ?_);simp(disch:=omega)only[go_sem,Z0,↓reduceIte,Z9,j3,j4,X,j6,j8,j9,W,B,C,p,G,I,true_and,z0a,h2,b3];exact⟨by omega,fun g=>v g.2,by omega⟩
    ·rw[if_neg (by omega)]at A
     repeat'(first|refine nxt ?_|((first|refine zqh fun K a=>?_|refine zqs (c2) ?_);simp(disch:=omega)only[go_sem,Z0,↓reduceIte,reduceCtorEq,Z2,Z1,Z9,j3,j4,X,j8,B,C,p,I,Y,z0a,Q,h2])|((first|refine zqd _ rfl (fun b=>?_) (fun b=>?_)|refine zqm _ rfl (fun b=>?_) (fun b=>?_))<;>(first|(cases b;done)|((try omega))))|(refine a _ ?_;clear a K))
     (refine z5s ?_);simp(disch:=omega)only[go_sem,Z0,↓reduceIte,Z9,j3,j4,X,j6,j8,j9,W,B,C,p,G,I,true_and,z0a,h2,b3];exact⟨by omega,fun g=>v g.2,by omega⟩
  ·have f:d.it.wh=0 \/ d.it.wh=1:=by
    have:¬(d.it.wh=2 \/ d.it.wh=3):=fun g=>o (decide_eq_true g);omega
   have F:z51 u id d.it.wh=id:=by unfold z51;rw[if_neg o]
   rw[F]at M s;have A:(n:Int)=if d.it.wh=0 then 0 else ((z07 id u).1.kids.length:Int):=by
    rw[hn,zex,if_neg o,F];split<;>rfl
   have a9:z7n id u=(dp:Int):=by rw[d3,s]
   repeat'(first|((refine zqh fun K a=>?_);simp(disch:=omega)only[go_sem,Z0,↓reduceIte,reduceCtorEq,Z2,X,p])|((refine zqm _ rfl (fun b=>?_) (fun b=>?_))<;>(((try simp only[z05]at b);try omega)))|refine nxt ?_|(refine a _ ?_;clear a K)|(refine zqf (fun o=>?_) (fun o=>?_)<;>(have f:=o;try simp only[z05]at f)<;>((first|have m:=eq_false f|have m:=eq_true f);simp(disch:=omega)only[go_sem,Z0,↓reduceIte,reduceCtorEq,Z2,m,X,p];clear o m;try omega)))
   (refine z5s ?_);simp(disch:=omega)only[go_sem,Z0,j3,j4,X,j6,j8,j9,W,B,C,p,G,I,Y,true_and,a9,<-M];refine⟨by rw[A,M],fun g=>o g.1,?_⟩;rw[<-M]at A;split at A<;>omega
 have c0:szB P=true:=by rw[M];exact b2 _
 obtain⟨p0,p1,p2,p3,p4,p5,p6⟩:=(z1k P).1 c0;have c4:=zge P.kind x.kind;have c5:=zgd P.kids p5 x.kind x.label;have c6:=zq8 x y1 (by omega);have c7:=zgf u hz (by omega);have c8:=zgf x y1 (by omega);have c9:=zq5 x y1 (by omega);have b8:=pc_in23 P.kids p5 n d8 x;have a7:=d2 (z51 u id d.it.wh);rw[<-s]at a7;have O:∀e,z99 u id d.it.wh x=e->¬e=0->R=(u,e):=fun e v h2=>by rw[hR,zey,v,if_neg h2]
 have d0:z99 u id d.it.wh x=0->R=(z10 (z51 u id d.it.wh) (z4u n x) u,0):=fun h=>by rw[hR,zey,h,if_pos rfl,hn]
 have z:z99 u id d.it.wh x=if z1h P.kind x.kind=false then 9 else if z2u P.kids x.kind x.label=true then 10 else
   if 64<=P.kids.length \/ 8<dp+1+depT x \/ 1024<cntT u+cntT x then 6 else if ((idsT x).any fun i=>(z07 i u).2)=true then 5 else 0:=by
  unfold z99;rw[if_neg d7,<-M,<-s]
 by_cases g1:z1h P.kind x.kind=true
 case neg =>
  rw[Zy]at g1;rw[if_pos g1]at z;rw[O 9 z (by decide)];rw[g1]at c4
  repeat'(first|refine nxt ?_|((first|refine zqh fun K a=>?_|refine zqs (c3) ?_|refine zqs (c4) ?_);simp(disch:=omega)only[go_sem,Z0,↓reduceIte,reduceCtorEq,Z2,Z1,k3,k5,k6,k8,E,Z,w,J,a0])|(refine zqd _ rfl ?_ ?_<;>intro b<;>(first|(cases b;done)|((try omega))))|refine zqu (by(simp(disch:=omega)only[go_sem,Z0,↓reduceIte,Z1,k6,w]);rfl) rfl ?_|(refine a _ ?_;clear a K))
  exact z06 (by simp only[pureD,pureD.pureL,z04,Z3]) (XW _)
 rw[if_neg (by rw[g1];decide)]at z;rw[g1]at c4
 by_cases g2:z2u P.kids x.kind x.label=true
 ·rw[if_pos g2]at z;rw[O 10 z (by decide)];rw[g2]at c5
  repeat'(first|refine nxt ?_|((first|refine zqh fun K a=>?_|refine zqs (c3) ?_|refine zqs (c4) ?_|refine zqs (c5) ?_);simp(disch:=omega)only[go_sem,Z0,↓reduceIte,reduceCtorEq,Z2,Z1,k3,k5,k6,k8,E,Z,w,J,a0,z0l])|(refine zqd _ rfl ?_ ?_<;>intro b<;>(first|(cases b;done)|((try omega))))|refine zqu (by(simp(disch:=omega)only[go_sem,Z0,↓reduceIte,Z1,k6,w]);rfl) rfl ?_|(refine a _ ?_;clear a K))
  exact z06 (by simp only[pureD,pureD.pureL,z04,Z3]) (XW _)
 rw[if_neg g2]at z;rw[Zy]at g2;rw[g2]at c5
 by_cases g3:64<=P.kids.length \/ 8<dp+1+depT x \/ 1024<cntT u+cntT x
 ·rw[if_pos g3]at z;rw[O 6 z (by decide)]
  repeat'(first|refine nxt ?_|((first|refine z09 (N:=18) rfl fun K a=>?_|refine z1s (N:=18) rfl (by decide+kernel) fun K a=>?_|refine zqs (c3) ?_|refine zqs (c4) ?_|refine zqs (c5) ?_|refine zqt (c6) ?_|refine zqt (c7) ?_|refine zqt (c8) ?_);simp(disch:=omega)only[go_sem,Z0,Z8,↓reduceIte,reduceCtorEq,Z2,Z1,k3,k5,k6,k8,E,Z,w,J,a0,z0l])|(refine zqd _ rfl ?_ ?_<;>intro b<;>(first|(cases b;done)|((try simp only[z05]at b);try omega)))|refine zqu (by(simp(disch:=omega)only[go_sem,Z0,↓reduceIte,Z1,k6,w]);rfl) rfl ?_|(refine a _ ?_;clear a K)|(refine zqf (fun o=>?_) (fun o=>?_)<;>(have f:=o;try simp only[z05]at f)<;>((first|have m:=eq_false f|have m:=eq_true f);simp(disch:=omega)only[go_sem,Z0,Z8,↓reduceIte,Z2,Z1,m,k3,k9,E];clear o m;try omega)))
  all_goals exact z06 (by simp only[pureD,pureD.pureL,z04,Z3]) (XW _)
 rw[if_neg g3]at z
 repeat'(first|refine nxt ?_|((first|refine z09 (N:=18) rfl fun K a=>?_|refine z1s (N:=18) rfl (by decide+kernel) fun K a=>?_|refine zqs (c3) ?_|refine zqs (c4) ?_|refine zqs (c5) ?_|refine zqt (c6) ?_|refine zqt (c7) ?_|refine zqt (c8) ?_);simp(disch:=omega)only[go_sem,Z0,Z8,↓reduceIte,reduceCtorEq,Z2,Z1,k5,k8,Z,J,a0,z0l])|(refine zqd _ rfl ?_ ?_<;>intro b<;>(first|(cases b;done)|((try simp only[z05]at b);try omega)))|(refine a _ ?_;clear a K)|(refine zqf (fun o=>?_) (fun o=>?_)<;>(have f:=o;try simp only[z05]at f)<;>((first|have m:=eq_false f|have m:=eq_true f);simp(disch:=omega)only[go_sem,Z0,Z8,↓reduceIte,Z2,Z1,m,k3,k9,E];clear o m;try omega)))
 repeat'(first|refine nxt ?_|((first|refine z09 (N:=20) rfl fun K a=>?_|refine zqs (c9) ?_);simp(disch:=omega)only[go_sem,Z0,↓reduceIte,Z2,Z1])|(refine a _ ?_;clear a K))
 have d9:(z0c x).length<=1000:=y2;(refine zqL (fun mz c=>∃(i:_),mz=(z0c x).length-i/\c.t 3=.ptr 0 0/\c.t 6=.ptr 3 0/\c.t 8=.ptr 4 0/\c.t 10=.int .i64 n/\c.t 11=.ptr 5 0/\c.t 12=z0l (z0c x)/\c.t 13=.int .i64 i/\c.H 0=some (.box 27 (z08 u))/\c.H 3=some (.box 27 [.int .i64 0,.int .i64 0,.int .i64 0,.int .i64 0,.str Zu,.nil,.nil,.nil])/\c.H 4=some (.box 27 (z08 P))/\c.H 5=some (.box 27 (z08 x))/\(i<=(z0c x).length)/\(6<=c.nx)/\(∀j,(hj:j<i)->(h:j<(z0c x).length)->¬(z0c x)[j].id∈idsT u)) ?_ ?_);rintro mz c ⟨i,rfl,q3,q6,q8,b4,b5,a1,a2,a3,L,a6,b6,e9,f0,b7⟩;rotate_left
 ·(refine⟨_,0,rfl,?_⟩);simp(disch:=omega)only[go_sem,Z0,Z1,k3,k6,k8,d6,E,w,J,true_and,Zn];exact fun j hj=>by omega
 by_cases hi:i<(z0c x).length
 ·have a4:=zd2 (z0c x)[i].id u hz (by omega)
  by_cases U:(z0c x)[i].id∈idsT u
  ·have v:((idsT x).any fun i=>(z07 i u).2)=true:=by
    rw[zrf,ZH];exact⟨_,Zl hi,decide_eq_true U⟩
   rw[if_pos v]at z;rw[O 5 z (by decide)];have a8:0<=z7n (z0c x)[i].id u:=ze2.2 (z4s.2 U)
   repeat'(first|refine nxt ?_|((first|refine zqh fun K a=>?_|refine zqe (by decide+kernel) fun K a=>?_|refine zqt (a4) ?_);simp(disch:=omega)only[go_sem,Z0,Z8,↓reduceIte,reduceCtorEq,Z2,Z1,q3,q6,a1,a2,a3,L,z0l])|((first|refine zqd _ rfl (fun b=>?_) (fun b=>?_)|refine zqm _ rfl (fun b=>?_) (fun b=>?_))<;>(((try simp only[z05]at b);try omega)))|refine zqu (by(simp(disch:=omega)only[go_sem,Z0,↓reduceIte,Z1,q6,L]);rfl) rfl ?_|(refine a _ ?_;clear a K))
   exact z06 (by simp only[pureD,pureD.pureL,z04,Z3]) (XW _)
  ·have a8:=zwa U;rw[a8]at a4
   repeat'(first|refine nxt ?_|((first|refine zqh fun K a=>?_|refine zqe (by decide+kernel) fun K a=>?_|refine zqr fun K a=>?_|refine zqt (a4) ?_);simp(disch:=omega)only[go_sem,Z0,Z8,↓reduceIte,reduceCtorEq,Z2,Z1,Zt,q3,a1,a2,a3,z0l])|((first|refine zqd _ rfl (fun b=>?_) (fun b=>?_)|refine zqm _ rfl (fun b=>?_) (fun b=>?_))<;>(first|(cases b;done)|((try simp only[z05]at b);try omega)))|(refine a _ ?_;clear a K))
   (refine⟨_,?_,i+1,rfl,?_⟩);rotate_left;simp(disch:=omega)only[go_sem,Z0,Z1,q3,q6,q8,b4,b5,a1,a2,a3,L,a6,b6,true_and,Z7,Za];rotate_left
   ·omega
   ·refine⟨by omega,by omega,fun j hj h=>?_⟩
    by_cases e:j=i
    ·subst e;exact U
    ·exact b7 j (by omega) h
 ·have v:¬((idsT x).any fun i=>(z07 i u).2)=true:=by
   rw[zrf,ZH];rintro⟨k,hk,he⟩;obtain⟨j,hj,rfl⟩:=Y1 hk;exact b7 j (by omega) hj (of_decide_eq_true he)
  rw[if_neg v]at z;rw[d0 z];obtain⟨_,l2,_⟩:=znk s4 hm hw z;have b0:P.id=z51 u id d.it.wh:=by
   obtain⟨_,_,h2,_⟩:=focus (z51 u id d.it.wh) u l2
   rw[M];exact h2
  have d4:z07 (z51 u id d.it.wh) u=(P,true):=by
   rw[M];exact Prod.ext rfl (zea l2)
  rw[<-zcz s4 d4];have a5:=z8o (z4u n x P) u hz;rw[show (z4u n x P).id=z51 u id d.it.wh from b0]at a5;rw[show z0o (z4u n x P)=.agg [.int .i64 P.id.act,.int .i64 P.id.item,.int .i64 P.id.n,.int .i64 P.kind,.str P.label,z0f P.head,z0f P.words,z0l (P.kids.take n++x::P.kids.drop n)] from by rw[z0o,z0n];rfl]at a5;simp only[z0n P]at a6
  repeat'(first|refine nxt ?_|((first|refine zqh fun K a=>?_|refine zqs (b8) ?_|refine zqs (a5) ?_);simp(disch:=omega)only[go_sem,Z0,↓reduceIte,reduceCtorEq,Z2,Z1,Zb,q3,q6,q8,b4,b5,a1,a2,a3,L,a6,b6,z0l,Z5,Z4])|(refine zqd _ rfl ?_ ?_<;>intro b<;>(((try simp only[z05]at b);try omega)))|refine zqz ?_|refine zqu (by(simp(disch:=omega)only[go_sem,Z0,↓reduceIte,Z1,q6,L]);rfl) rfl ?_|(refine a _ ?_;clear a K))
  exact z06 (by simp only[pureD,pureD.pureL,z04,Z3]) (XW _)
def zIt:List D:=[.int .i64 0,.nil,.nil,.int .i64 0,.int .i64 0,.int .i64 0,.int .i64 0,.int .i64 0,.int .i64 0,.str ⟨#[]⟩,.nil,.nil,.nil,.nil,.nil,.str ⟨#[]⟩,.str ⟨#[]⟩,.int .i64 0,.int .i64 0,.str ⟨#[]⟩,.int .i64 0,.int .i64 0,.int .i64 0,.str ⟨#[]⟩,.nil]
theorem z7t{ds:List D}{y:It}(h:LeL ds (z0t y)):Le (.agg ds) (zfp y):=Le.agg h
theorem toldI_eq(x:It):ztk x=.mk x.kind (if x.kind<=6 then x.at_ else []) (if x.kind=6 then x.to else []) (if x.kind=0 \/ x.kind=6 then x.wh else 0) (if x.kind=2 \/ x.kind=3 then x.nth else 0) (if x.kind=0 then x.unit else T.zero)
  (if x.kind=2 \/ x.kind=3 then x.old else []) (if x.kind=2 \/ x.kind=3 \/ x.kind=4 then x.new else []) (if x.kind=5 then x.label else z3h) (if x.kind<=6 then x.for_ else z3h) (if x.kind<=6 then x.sk else 0) (if x.kind<=6 then x.sd else 0) (if x.kind<=6 then x.se else z3h)
  (if x.kind=7 \/ x.kind=8 \/ x.kind=9 \/ x.kind=11 then x.act else 0) (if x.kind=7 \/ x.kind=8 \/ x.kind=9 \/ x.kind=11 then x.item else 0) (if x.kind<=6 \/ x.kind=11 then 0 else x.day) (if x.kind=10 then x.event else z3h) (if x.kind=11 then x.by_ else []):=by
 unfold ztk;simp only[decide_eq_true_eq]
set_option maxHeartbeats 16000000 in
theorem pc_told(x:It)(z:0<=x.kind/\x.kind<=11):PC prog 76 [zfp x] (zfp (ztk x)):=by
 refine z14 3 (by simp only[pureD.pureL,z5p,Z3]) (z5p _) (zqzj [8000000,600011,900000,600013,900000,600015,900000,600016,900002,600017,900002,600018,900002,600027,900000,600029,900000,600030,900002,600031,900002,600036,900000,600038,900000,600040,900000,600041,900002,600042,900002,600043,900002,600057,900000,600059,900000,600060,900002,600061,900002,600067,900000,600069,900000,600070,900002,600071,900002,600080,900000,600082,900000,600084,900000,600085,900002,600086,900002,600087,900002,600088,900002] func76 rfl (by decide+kernel) rfl ?_);rw[show Tryz.f76.results.toList=[.cell 2 43] from rfl];rw[toldI_eq];have w:zIt.length=25:=rfl;have y:True:=trivial;rcases(show x.kind=0 \/ x.kind=1 \/ x.kind=2 \/ x.kind=3 \/ x.kind=4 \/ x.kind=5 \/ x.kind=6 \/ x.kind=7 \/ x.kind=8 \/ x.kind=9 \/ x.kind=10 \/ x.kind=11 by omega)with h|h|h|h|h|h|h|h|h|h|h|h
 ·skip
  repeat'(first|refine nxt ?_|((first|refine z09 (N:=5) rfl fun K b=>?_|refine z1s (N:=5) rfl (by decide+kernel) fun K b=>?_);simp(disch:=omega)only[go_sem,Z0,Z8,↓reduceIte,reduceCtorEq,Z2,Z1,Zt,h,Z5,Z4])|(refine zqd _ rfl ?_ ?_<;>intro g<;>(first|(cases g;done)|((try omega))))|(refine b _ ?_;clear b K))
  (refine z2a (fun a=>a.t 1=.ptr 0 0/\a.t 2=.ptr 1 0/\a.t 3=.ptr 2 0/\a.H 0=some (.box 43 (z0t x))/\a.H 1=some (.box 43 zIt)/\a.H 2=some (.box 43 [.int .i64 0,z0k x.at_,.nil,.int .i64 0,.int .i64 0,.int .i64 0,.int .i64 0,.int .i64 0,.int .i64 0,.str ⟨#[]⟩,.nil,.nil,.nil,.nil,.nil,.str ⟨#[]⟩,.str x.for_,.int .i64 x.sk,.int .i64 x.sd,.str x.se,.int .i64 0,.int .i64 0,.int .i64 0,.str ⟨#[]⟩,.nil])/\a.nx=3) ?_ ?_);rotate_left;(rintro a ⟨s,u,r,k,l,f,m⟩);rotate_left
  ·(simp(disch:=omega)only[go_sem,Z0,true_and,and_true])
   first|exact⟨rfl,rfl⟩|exact rfl
  repeat'(first|((first|refine z09 (N:=25) rfl fun K b=>?_|refine zqq (by decide+kernel) fun K b=>?_);simp(disch:=omega)only[go_sem,Z0,Z8,↓reduceIte,reduceCtorEq,Z2,Z1,Zb,s,r,k,f,m,h,z0k,Z5,Z4])|((refine zqm _ rfl (fun g=>?_) (fun g=>?_))<;>(first|(cases g;done)|((try omega))))|refine nxt ?_|(refine b _ ?_;clear b K))
  obtain⟨L,i⟩:∃L:List D,L=[.int .i64 0,z0k x.at_,.nil,.int .i64 x.wh,.int .i64 0,.int .i64 x.unit.id.act,.int .i64 x.unit.id.item,.int .i64 x.unit.id.n,.int .i64 x.unit.kind,.str x.unit.label,z0f x.unit.head,z0f x.unit.words,z0l x.unit.kids,.nil,.nil,.str ⟨#[]⟩,.str x.for_,.int .i64 x.sk,.int .i64 x.sd,.str x.se,.int .i64 0,.int .i64 0,.int .i64 0,.str ⟨#[]⟩,.nil]:=⟨_,rfl⟩
  have c:L.length=25:=by rw[i];rfl
  have d:ZC 25 L=L:=Zc (by omega);have j:z1d zIt 0 L=L:=z2d _ _ (by rw[c];rfl);(refine z2a (fun a=>a.t 2=.ptr 1 0/\a.t 3=.ptr 2 0/\a.H 1=some (.box 43 zIt)/\a.H 2=some (.box 43 L)/\a.nx=3) ?_ ?_);rotate_left;(rintro a ⟨q,v,e,o,p⟩);rotate_left
  ·(simp(disch:=omega)only[go_sem,Z0,true_and,and_true,u,r,l,f,i,z0k]);rw[z0n];rfl
  repeat'(first|((refine zqh fun K b=>?_);simp(disch:=omega)only[go_sem,Z0,↓reduceIte,Z2,Z1,q,v,e,o,p,c,d,j,w])|refine nxt ?_|refine zqu (by(simp(disch:=omega)only[go_sem,Z0,↓reduceIte,Z1,q,e,c,d]);rfl) rfl ?_|(refine b _ ?_;clear b K))
  refine z06 ?_ (z7t ?_)
  ·rw[i];simp only[pureD,pureD.pureL,z1u,z0g,z1g,Z3]
  ·clear c d j q v e o p s u r k l f m;cases x;simp only[It.kind,It.at_,It.to,It.wh,It.nth,It.unit,It.old,It.new,It.label,It.for_,It.sk,It.sd,It.se,It.act,It.item,It.day,It.event,It.by_]at h i⊢;subst h;rw[z0v,i]
   repeat'(first|exact trivial|exact XW _|exact Le.nil _|refine And.intro ?_ ?_)
 ·skip
  repeat'(first|refine nxt ?_|((first|refine z09 (N:=5) rfl fun K b=>?_|refine z1s (N:=5) rfl (by decide+kernel) fun K b=>?_);simp(disch:=omega)only[go_sem,Z0,Z8,↓reduceIte,reduceCtorEq,Z2,Z1,Zt,h,Z5,Z4])|(refine zqd _ rfl ?_ ?_<;>intro g<;>(first|(cases g;done)|((try omega))))|(refine b _ ?_;clear b K))
  (refine z2a (fun a=>a.t 1=.ptr 0 0/\a.t 2=.ptr 1 0/\a.t 3=.ptr 2 0/\a.H 0=some (.box 43 (z0t x))/\a.H 1=some (.box 43 zIt)/\a.H 2=some (.box 43 [.int .i64 1,z0k x.at_,.nil,.int .i64 0,.int .i64 0,.int .i64 0,.int .i64 0,.int .i64 0,.int .i64 0,.str ⟨#[]⟩,.nil,.nil,.nil,.nil,.nil,.str ⟨#[]⟩,.str x.for_,.int .i64 x.sk,.int .i64 x.sd,.str x.se,.int .i64 0,.int .i64 0,.int .i64 0,.str ⟨#[]⟩,.nil])/\a.nx=3) ?_ ?_);rotate_left;(rintro a ⟨s,u,r,k,l,f,m⟩);rotate_left
  ·(simp(disch:=omega)only[go_sem,Z0,true_and,and_true])
   first|exact⟨rfl,rfl⟩|exact rfl
  repeat'(first|refine nxt ?_|((refine z09 (N:=25) rfl fun K b=>?_);simp(disch:=omega)only[go_sem,Z0,↓reduceIte,reduceCtorEq,Z2,Z9,s,k,m,h])|((first|refine zqd _ rfl (fun g=>?_) (fun g=>?_)|refine zqm _ rfl (fun g=>?_) (fun g=>?_))<;>(first|(cases g;done)|((try omega))))|(refine b _ ?_;clear b K))
  obtain⟨L,i⟩:∃L:List D,L=[.int .i64 1,z0k x.at_,.nil,.int .i64 0,.int .i64 0,.int .i64 0,.int .i64 0,.int .i64 0,.int .i64 0,.str ⟨#[]⟩,.nil,.nil,.nil,.nil,.nil,.str ⟨#[]⟩,.str x.for_,.int .i64 x.sk,.int .i64 x.sd,.str x.se,.int .i64 0,.int .i64 0,.int .i64 0,.str ⟨#[]⟩,.nil]:=⟨_,rfl⟩
  have c:L.length=25:=by rw[i];rfl
  have d:ZC 25 L=L:=Zc (by omega);have j:z1d zIt 0 L=L:=z2d _ _ (by rw[c];rfl);(refine z2a (fun a=>a.t 2=.ptr 1 0/\a.t 3=.ptr 2 0/\a.H 1=some (.box 43 zIt)/\a.H 2=some (.box 43 L)/\a.nx=3) ?_ ?_);rotate_left;(rintro a ⟨q,v,e,o,p⟩);rotate_left
  ·(simp(disch:=omega)only[go_sem,Z0,and_self,u,r,l,f,i,z0k])
  repeat'(first|((refine zqh fun K b=>?_);simp(disch:=omega)only[go_sem,Z0,↓reduceIte,Z2,Z1,q,v,e,o,p,c,d,j,w])|refine nxt ?_|refine zqu (by(simp(disch:=omega)only[go_sem,Z0,↓reduceIte,Z1,q,e,c,d]);rfl) rfl ?_|(refine b _ ?_;clear b K))
  refine z06 ?_ (z7t ?_)
  ·rw[i];simp only[pureD,pureD.pureL,z1u,Z3]
  ·clear c d j q v e o p s u r k l f m;cases x;simp only[It.kind,It.at_,It.to,It.wh,It.nth,It.unit,It.old,It.new,It.label,It.for_,It.sk,It.sd,It.se,It.act,It.item,It.day,It.event,It.by_]at h i⊢;subst h;rw[z0v,i]
   repeat'(first|exact trivial|exact XW _|exact Le.nil _|refine And.intro ?_ ?_)
 ·skip
  repeat'(first|refine nxt ?_|((first|refine z09 (N:=5) rfl fun K b=>?_|refine z1s (N:=5) rfl (by decide+kernel) fun K b=>?_);simp(disch:=omega)only[go_sem,Z0,Z8,↓reduceIte,reduceCtorEq,Z2,Z1,Zt,h,Z5,Z4])|(refine zqd _ rfl ?_ ?_<;>intro g<;>(first|(cases g;done)|((try omega))))|(refine b _ ?_;clear b K))
  (refine z2a (fun a=>a.t 1=.ptr 0 0/\a.t 2=.ptr 1 0/\a.t 3=.ptr 2 0/\a.H 0=some (.box 43 (z0t x))/\a.H 1=some (.box 43 zIt)/\a.H 2=some (.box 43 [.int .i64 2,z0k x.at_,.nil,.int .i64 0,.int .i64 0,.int .i64 0,.int .i64 0,.int .i64 0,.int .i64 0,.str ⟨#[]⟩,.nil,.nil,.nil,.nil,.nil,.str ⟨#[]⟩,.str x.for_,.int .i64 x.sk,.int .i64 x.sd,.str x.se,.int .i64 0,.int .i64 0,.int .i64 0,.str ⟨#[]⟩,.nil])/\a.nx=3) ?_ ?_);rotate_left;(rintro a ⟨s,u,r,k,l,f,m⟩);rotate_left
  ·(simp(disch:=omega)only[go_sem,Z0,true_and,and_true])
   first|exact⟨rfl,rfl⟩|exact rfl
  repeat'(first|refine nxt ?_|((first|refine z09 (N:=25) rfl fun K b=>?_|refine zqq (by decide+kernel) fun K b=>?_);simp(disch:=omega)only[go_sem,Z0,Z8,↓reduceIte,reduceCtorEq,Z2,Z1,Zb,Z9,s,r,k,f,m,h,z0k,z1n,Z5,Z4])|((first|refine zqd _ rfl (fun g=>?_) (fun g=>?_)|refine zqm _ rfl (fun g=>?_) (fun g=>?_))<;>(first|(cases g;done)|((try omega))))|(refine b _ ?_;clear b K))
  obtain⟨L,i⟩:∃L:List D,L=[.int .i64 2,z0k x.at_,.nil,.int .i64 0,.int .i64 x.nth,.int .i64 0,.int .i64 0,.int .i64 0,.int .i64 0,.str ⟨#[]⟩,.nil,.nil,.nil,z1n x.old,z1n x.new,.str ⟨#[]⟩,.str x.for_,.int .i64 x.sk,.int .i64 x.sd,.str x.se,.int .i64 0,.int .i64 0,.int .i64 0,.str ⟨#[]⟩,.nil]:=⟨_,rfl⟩
  have c:L.length=25:=by rw[i];rfl
  have d:ZC 25 L=L:=Zc (by omega);have j:z1d zIt 0 L=L:=z2d _ _ (by rw[c];rfl);(refine z2a (fun a=>a.t 2=.ptr 1 0/\a.t 3=.ptr 2 0/\a.H 1=some (.box 43 zIt)/\a.H 2=some (.box 43 L)/\a.nx=3) ?_ ?_);rotate_left;(rintro a ⟨q,v,e,o,p⟩);rotate_left
  ·(simp(disch:=omega)only[go_sem,Z0,and_self,u,r,l,f,i,z0k,z1n])
  repeat'(first|((refine zqh fun K b=>?_);simp(disch:=omega)only[go_sem,Z0,↓reduceIte,Z2,Z1,q,v,e,o,p,c,d,j,w])|refine nxt ?_|refine zqu (by(simp(disch:=omega)only[go_sem,Z0,↓reduceIte,Z1,q,e,c,d]);rfl) rfl ?_|(refine b _ ?_;clear b K))
  refine z06 ?_ (z7t ?_)
  ·rw[i];simp only[pureD,pureD.pureL,z1u,z1q,Z3]
  ·clear c d j q v e o p s u r k l f m;cases x;simp only[It.kind,It.at_,It.to,It.wh,It.nth,It.unit,It.old,It.new,It.label,It.for_,It.sk,It.sd,It.se,It.act,It.item,It.day,It.event,It.by_]at h i⊢;subst h;rw[z0v,i]
   repeat'(first|exact trivial|exact XW _|exact Le.nil _|refine And.intro ?_ ?_)
 ·skip
  repeat'(first|refine nxt ?_|((first|refine z09 (N:=5) rfl fun K b=>?_|refine z1s (N:=5) rfl (by decide+kernel) fun K b=>?_);simp(disch:=omega)only[go_sem,Z0,Z8,↓reduceIte,reduceCtorEq,Z2,Z1,Zt,h,Z5,Z4])|(refine zqd _ rfl ?_ ?_<;>intro g<;>(first|(cases g;done)|((try omega))))|(refine b _ ?_;clear b K))
  (refine z2a (fun a=>a.t 1=.ptr 0 0/\a.t 2=.ptr 1 0/\a.t 3=.ptr 2 0/\a.H 0=some (.box 43 (z0t x))/\a.H 1=some (.box 43 zIt)/\a.H 2=some (.box 43 [.int .i64 3,z0k x.at_,.nil,.int .i64 0,.int .i64 0,.int .i64 0,.int .i64 0,.int .i64 0,.int .i64 0,.str ⟨#[]⟩,.nil,.nil,.nil,.nil,.nil,.str ⟨#[]⟩,.str x.for_,.int .i64 x.sk,.int .i64 x.sd,.str x.se,.int .i64 0,.int .i64 0,.int .i64 0,.str ⟨#[]⟩,.nil])/\a.nx=3) ?_ ?_);rotate_left;(rintro a ⟨s,u,r,k,l,f,m⟩);rotate_left
  ·(simp(disch:=omega)only[go_sem,Z0,true_and,and_true])
   first|exact⟨rfl,rfl⟩|exact rfl
  repeat'(first|refine nxt ?_|((first|refine z09 (N:=25) rfl fun K b=>?_|refine zqq (by decide+kernel) fun K b=>?_);simp(disch:=omega)only[go_sem,Z0,Z8,↓reduceIte,reduceCtorEq,Z2,Z1,Zb,Z9,s,r,k,f,m,h,z0k,z1n,Z5,Z4])|((first|refine zqd _ rfl (fun g=>?_) (fun g=>?_)|refine zqm _ rfl (fun g=>?_) (fun g=>?_))<;>(first|(cases g;done)|((try omega))))|(refine b _ ?_;clear b K))
  obtain⟨L,i⟩:∃L:List D,L=[.int .i64 3,z0k x.at_,.nil,.int .i64 0,.int .i64 x.nth,.int .i64 0,.int .i64 0,.int .i64 0,.int .i64 0,.str ⟨#[]⟩,.nil,.nil,.nil,z1n x.old,z1n x.new,.str ⟨#[]⟩,.str x.for_,.int .i64 x.sk,.int .i64 x.sd,.str x.se,.int .i64 0,.int .i64 0,.int .i64 0,.str ⟨#[]⟩,.nil]:=⟨_,rfl⟩
  have c:L.length=25:=by rw[i];rfl
  have d:ZC 25 L=L:=Zc (by omega);have j:z1d zIt 0 L=L:=z2d _ _ (by rw[c];rfl);(refine z2a (fun a=>a.t 2=.ptr 1 0/\a.t 3=.ptr 2 0/\a.H 1=some (.box 43 zIt)/\a.H 2=some (.box 43 L)/\a.nx=3) ?_ ?_);rotate_left;(rintro a ⟨q,v,e,o,p⟩);rotate_left
  ·(simp(disch:=omega)only[go_sem,Z0,and_self,u,r,l,f,i,z0k,z1n])
  repeat'(first|((refine zqh fun K b=>?_);simp(disch:=omega)only[go_sem,Z0,↓reduceIte,Z2,Z1,q,v,e,o,p,c,d,j,w])|refine nxt ?_|refine zqu (by(simp(disch:=omega)only[go_sem,Z0,↓reduceIte,Z1,q,e,c,d]);rfl) rfl ?_|(refine b _ ?_;clear b K))
  refine z06 ?_ (z7t ?_)
  ·rw[i];simp only[pureD,pureD.pureL,z1u,z1q,Z3]
  ·clear c d j q v e o p s u r k l f m;cases x;simp only[It.kind,It.at_,It.to,It.wh,It.nth,It.unit,It.old,It.new,It.label,It.for_,It.sk,It.sd,It.se,It.act,It.item,It.day,It.event,It.by_]at h i⊢;subst h;rw[z0v,i]
   repeat'(first|exact trivial|exact XW _|exact Le.nil _|refine And.intro ?_ ?_)
 ·skip
  repeat'(first|refine nxt ?_|((first|refine z09 (N:=5) rfl fun K b=>?_|refine z1s (N:=5) rfl (by decide+kernel) fun K b=>?_);simp(disch:=omega)only[go_sem,Z0,Z8,↓reduceIte,reduceCtorEq,Z2,Z1,Zt,h,Z5,Z4])|(refine zqd _ rfl ?_ ?_<;>intro g<;>(first|(cases g;done)|((try omega))))|(refine b _ ?_;clear b K))
  (refine z2a (fun a=>a.t 1=.ptr 0 0/\a.t 2=.ptr 1 0/\a.t 3=.ptr 2 0/\a.H 0=some (.box 43 (z0t x))/\a.H 1=some (.box 43 zIt)/\a.H 2=some (.box 43 [.int .i64 4,z0k x.at_,.nil,.int .i64 0,.int .i64 0,.int .i64 0,.int .i64 0,.int .i64 0,.int .i64 0,.str ⟨#[]⟩,.nil,.nil,.nil,.nil,.nil,.str ⟨#[]⟩,.str x.for_,.int .i64 x.sk,.int .i64 x.sd,.str x.se,.int .i64 0,.int .i64 0,.int .i64 0,.str ⟨#[]⟩,.nil])/\a.nx=3) ?_ ?_);rotate_left;(rintro a ⟨s,u,r,k,l,f,m⟩);rotate_left
  ·(simp(disch:=omega)only[go_sem,Z0,true_and,and_true])
   first|exact⟨rfl,rfl⟩|exact rfl
  repeat'(first|refine nxt ?_|((first|refine z09 (N:=25) rfl fun K b=>?_|refine zqr fun K b=>?_);simp(disch:=omega)only[go_sem,Z0,↓reduceIte,reduceCtorEq,Z2,Z1,Zb,Z9,s,r,k,f,m,h,z0k,z1n,Z5,Z4])|((first|refine zqd _ rfl (fun g=>?_) (fun g=>?_)|refine zqm _ rfl (fun g=>?_) (fun g=>?_))<;>(first|(cases g;done)|((try omega))))|(refine b _ ?_;clear b K))
  obtain⟨L,i⟩:∃L:List D,L=[.int .i64 4,z0k x.at_,.nil,.int .i64 0,.int .i64 0,.int .i64 0,.int .i64 0,.int .i64 0,.int .i64 0,.str ⟨#[]⟩,.nil,.nil,.nil,.nil,z1n x.new,.str ⟨#[]⟩,.str x.for_,.int .i64 x.sk,.int .i64 x.sd,.str x.se,.int .i64 0,.int .i64 0,.int .i64 0,.str ⟨#[]⟩,.nil]:=⟨_,rfl⟩
  have c:L.length=25:=by rw[i];rfl
  have d:ZC 25 L=L:=Zc (by omega);have j:z1d zIt 0 L=L:=z2d _ _ (by rw[c];rfl);(refine z2a (fun a=>a.t 2=.ptr 1 0/\a.t 3=.ptr 2 0/\a.H 1=some (.box 43 zIt)/\a.H 2=some (.box 43 L)/\a.nx=3) ?_ ?_);rotate_left;(rintro a ⟨q,v,e,o,p⟩);rotate_left
  ·(simp(disch:=omega)only[go_sem,Z0,and_self,u,r,l,f,i,z0k,z1n])
  repeat'(first|((refine zqh fun K b=>?_);simp(disch:=omega)only[go_sem,Z0,↓reduceIte,Z2,Z1,q,v,e,o,p,c,d,j,w])|refine nxt ?_|refine zqu (by(simp(disch:=omega)only[go_sem,Z0,↓reduceIte,Z1,q,e,c,d]);rfl) rfl ?_|(refine b _ ?_;clear b K))
  refine z06 ?_ (z7t ?_)
  ·rw[i];simp only[pureD,pureD.pureL,z1u,z1q,Z3]
  ·clear c d j q v e o p s u r k l f m;cases x;simp only[It.kind,It.at_,It.to,It.wh,It.nth,It.unit,It.old,It.new,It.label,It.for_,It.sk,It.sd,It.se,It.act,It.item,It.day,It.event,It.by_]at h i⊢;subst h;rw[z0v,i]
   repeat'(first|exact trivial|exact XW _|exact Le.nil _|refine And.intro ?_ ?_)
 ·skip
  repeat'(first|refine nxt ?_|((first|refine z09 (N:=5) rfl fun K b=>?_|refine z1s (N:=5) rfl (by decide+kernel) fun K b=>?_);simp(disch:=omega)only[go_sem,Z0,Z8,↓reduceIte,reduceCtorEq,Z2,Z1,Zt,h,Z5,Z4])|(refine zqd _ rfl ?_ ?_<;>intro g<;>(first|(cases g;done)|((try omega))))|(refine b _ ?_;clear b K))
  (refine z2a (fun a=>a.t 1=.ptr 0 0/\a.t 2=.ptr 1 0/\a.t 3=.ptr 2 0/\a.H 0=some (.box 43 (z0t x))/\a.H 1=some (.box 43 zIt)/\a.H 2=some (.box 43 [.int .i64 5,z0k x.at_,.nil,.int .i64 0,.int .i64 0,.int .i64 0,.int .i64 0,.int .i64 0,.int .i64 0,.str ⟨#[]⟩,.nil,.nil,.nil,.nil,.nil,.str ⟨#[]⟩,.str x.for_,.int .i64 x.sk,.int .i64 x.sd,.str x.se,.int .i64 0,.int .i64 0,.int .i64 0,.str ⟨#[]⟩,.nil])/\a.nx=3) ?_ ?_);rotate_left;(rintro a ⟨s,u,r,k,l,f,m⟩);rotate_left
  ·(simp(disch:=omega)only[go_sem,Z0,true_and,and_true])
   first|exact⟨rfl,rfl⟩|exact rfl
  repeat'(first|refine nxt ?_|((first|refine z09 (N:=25) rfl fun K b=>?_|refine zqr fun K b=>?_);simp(disch:=omega)only[go_sem,Z0,↓reduceIte,reduceCtorEq,Z2,Z1,Zb,Z9,s,r,k,f,m,h,z0k,Z5,Z4])|((first|refine zqd _ rfl (fun g=>?_) (fun g=>?_)|refine zqm _ rfl (fun g=>?_) (fun g=>?_))<;>(first|(cases g;done)|((try omega))))|(refine b _ ?_;clear b K))
  obtain⟨L,i⟩:∃L:List D,L=[.int .i64 5,z0k x.at_,.nil,.int .i64 0,.int .i64 0,.int .i64 0,.int .i64 0,.int .i64 0,.int .i64 0,.str ⟨#[]⟩,.nil,.nil,.nil,.nil,.nil,.str x.label,.str x.for_,.int .i64 x.sk,.int .i64 x.sd,.str x.se,.int .i64 0,.int .i64 0,.int .i64 0,.str ⟨#[]⟩,.nil]:=⟨_,rfl⟩
  have c:L.length=25:=by rw[i];rfl
  have d:ZC 25 L=L:=Zc (by omega);have j:z1d zIt 0 L=L:=z2d _ _ (by rw[c];rfl);(refine z2a (fun a=>a.t 2=.ptr 1 0/\a.t 3=.ptr 2 0/\a.H 1=some (.box 43 zIt)/\a.H 2=some (.box 43 L)/\a.nx=3) ?_ ?_);rotate_left;(rintro a ⟨q,v,e,o,p⟩);rotate_left
  ·(simp(disch:=omega)only[go_sem,Z0,and_self,u,r,l,f,i,z0k])
  repeat'(first|((refine zqh fun K b=>?_);simp(disch:=omega)only[go_sem,Z0,↓reduceIte,Z2,Z1,q,v,e,o,p,c,d,j,w])|refine nxt ?_|refine zqu (by(simp(disch:=omega)only[go_sem,Z0,↓reduceIte,Z1,q,e,c,d]);rfl) rfl ?_|(refine b _ ?_;clear b K))
  refine z06 ?_ (z7t ?_)
  ·rw[i];simp only[pureD,pureD.pureL,z1u,Z3]
  ·clear c d j q v e o p s u r k l f m;cases x;simp only[It.kind,It.at_,It.to,It.wh,It.nth,It.unit,It.old,It.new,It.label,It.for_,It.sk,It.sd,It.se,It.act,It.item,It.day,It.event,It.by_]at h i⊢;subst h;rw[z0v,i]
   repeat'(first|exact trivial|exact XW _|exact Le.nil _|refine And.intro ?_ ?_)
 ·skip
  repeat'(first|refine nxt ?_|((first|refine z09 (N:=5) rfl fun K b=>?_|refine z1s (N:=5) rfl (by decide+kernel) fun K b=>?_);simp(disch:=omega)only[go_sem,Z0,Z8,↓reduceIte,reduceCtorEq,Z2,Z1,Zt,h,Z5,Z4])|(refine zqd _ rfl ?_ ?_<;>intro g<;>(first|(cases g;done)|((try omega))))|(refine b _ ?_;clear b K))
  (refine z2a (fun a=>a.t 1=.ptr 0 0/\a.t 2=.ptr 1 0/\a.t 3=.ptr 2 0/\a.H 0=some (.box 43 (z0t x))/\a.H 1=some (.box 43 zIt)/\a.H 2=some (.box 43 [.int .i64 6,z0k x.at_,.nil,.int .i64 0,.int .i64 0,.int .i64 0,.int .i64 0,.int .i64 0,.int .i64 0,.str ⟨#[]⟩,.nil,.nil,.nil,.nil,.nil,.str ⟨#[]⟩,.str x.for_,.int .i64 x.sk,.int .i64 x.sd,.str x.se,.int .i64 0,.int .i64 0,.int .i64 0,.str ⟨#[]⟩,.nil])/\a.nx=3) ?_ ?_);rotate_left;(rintro a ⟨s,u,r,k,l,f,m⟩);rotate_left
  ·(simp(disch:=omega)only[go_sem,Z0,true_and,and_true])
   first|exact⟨rfl,rfl⟩|exact rfl
  repeat'(first|refine nxt ?_|((first|refine z09 (N:=25) rfl fun K b=>?_|refine zqq (by decide+kernel) fun K b=>?_);simp(disch:=omega)only[go_sem,Z0,Z8,↓reduceIte,reduceCtorEq,Z2,Z1,Zb,Z9,s,r,k,f,m,h,z0k,Z5,Z4])|((first|refine zqd _ rfl (fun g=>?_) (fun g=>?_)|refine zqm _ rfl (fun g=>?_) (fun g=>?_))<;>(first|(cases g;done)|((try omega))))|(refine b _ ?_;clear b K))
  obtain⟨L,i⟩:∃L:List D,L=[.int .i64 6,z0k x.at_,z0k x.to,.int .i64 x.wh,.int .i64 0,.int .i64 0,.int .i64 0,.int .i64 0,.int .i64 0,.str ⟨#[]⟩,.nil,.nil,.nil,.nil,.nil,.str ⟨#[]⟩,.str x.for_,.int .i64 x.sk,.int .i64 x.sd,.str x.se,.int .i64 0,.int .i64 0,.int .i64 0,.str ⟨#[]⟩,.nil]:=⟨_,rfl⟩
  have c:L.length=25:=by rw[i];rfl
  have d:ZC 25 L=L:=Zc (by omega);have j:z1d zIt 0 L=L:=z2d _ _ (by rw[c];rfl);(refine z2a (fun a=>a.t 2=.ptr 1 0/\a.t 3=.ptr 2 0/\a.H 1=some (.box 43 zIt)/\a.H 2=some (.box 43 L)/\a.nx=3) ?_ ?_);rotate_left;(rintro a ⟨q,v,e,o,p⟩);rotate_left
  ·(simp(disch:=omega)only[go_sem,Z0,and_self,u,r,l,f,i,z0k])
  repeat'(first|((refine zqh fun K b=>?_);simp(disch:=omega)only[go_sem,Z0,↓reduceIte,Z2,Z1,q,v,e,o,p,c,d,j,w])|refine nxt ?_|refine zqu (by(simp(disch:=omega)only[go_sem,Z0,↓reduceIte,Z1,q,e,c,d]);rfl) rfl ?_|(refine b _ ?_;clear b K))
  refine z06 ?_ (z7t ?_)
  ·rw[i];simp only[pureD,pureD.pureL,z1u,Z3]
  ·clear c d j q v e o p s u r k l f m;cases x;simp only[It.kind,It.at_,It.to,It.wh,It.nth,It.unit,It.old,It.new,It.label,It.for_,It.sk,It.sd,It.se,It.act,It.item,It.day,It.event,It.by_]at h i⊢;subst h;rw[z0v,i]
   repeat'(first|exact trivial|exact XW _|exact Le.nil _|refine And.intro ?_ ?_)
 ·skip
  repeat'(first|refine nxt ?_|((refine z09 (N:=5) rfl fun K b=>?_);simp(disch:=omega)only[go_sem,Z0,↓reduceIte,reduceCtorEq,Z2,Z1,Zb,Zt,h,Z5,Z4])|(refine zqd _ rfl ?_ ?_<;>intro g<;>(first|(cases g;done)|((try omega))))|(refine b _ ?_;clear b K))
  (refine z2a (fun a=>a.t 1=.ptr 0 0/\a.t 2=.ptr 1 0/\a.t 3=.ptr 2 0/\a.H 0=some (.box 43 (z0t x))/\a.H 1=some (.box 43 zIt)/\a.H 2=some (.box 43 [.int .i64 7,.nil,.nil,.int .i64 0,.int .i64 0,.int .i64 0,.int .i64 0,.int .i64 0,.int .i64 0,.str ⟨#[]⟩,.nil,.nil,.nil,.nil,.nil,.str ⟨#[]⟩,.str ⟨#[]⟩,.int .i64 0,.int .i64 0,.str ⟨#[]⟩,.int .i64 0,.int .i64 0,.int .i64 x.day,.str ⟨#[]⟩,.nil])/\a.nx=3) ?_ ?_);rotate_left;(rintro a ⟨s,u,r,k,l,f,m⟩);rotate_left
  ·(simp(disch:=omega)only[go_sem,Z0,true_and,and_true,and_self])
   first|exact⟨rfl,rfl⟩|exact rfl
  repeat'(first|refine nxt ?_|((first|refine z09 (N:=25) rfl fun K b=>?_|refine zqq (by decide+kernel) fun K b=>?_);simp(disch:=omega)only[go_sem,Z0,Z8,↓reduceIte,reduceCtorEq,Z2,Z1,Zb,Z9,s,r,k,f,m,h,Z5,Z4])|((first|refine zqd _ rfl (fun g=>?_) (fun g=>?_)|refine zqm _ rfl (fun g=>?_) (fun g=>?_))<;>(first|(cases g;done)|((try omega))))|(refine b _ ?_;clear b K))
  obtain⟨L,i⟩:∃L:List D,L=[.int .i64 7,.nil,.nil,.int .i64 0,.int .i64 0,.int .i64 0,.int .i64 0,.int .i64 0,.int .i64 0,.str ⟨#[]⟩,.nil,.nil,.nil,.nil,.nil,.str ⟨#[]⟩,.str ⟨#[]⟩,.int .i64 0,.int .i64 0,.str ⟨#[]⟩,.int .i64 x.act,.int .i64 x.item,.int .i64 x.day,.str ⟨#[]⟩,.nil]:=⟨_,rfl⟩
  have c:L.length=25:=by rw[i];rfl
  have d:ZC 25 L=L:=Zc (by omega);have j:z1d zIt 0 L=L:=z2d _ _ (by rw[c];rfl);(refine z2a (fun a=>a.t 2=.ptr 1 0/\a.t 3=.ptr 2 0/\a.H 1=some (.box 43 zIt)/\a.H 2=some (.box 43 L)/\a.nx=3) ?_ ?_);rotate_left;(rintro a ⟨q,v,e,o,p⟩);rotate_left
  ·(simp(disch:=omega)only[go_sem,Z0,and_self,u,r,l,f,i])
  repeat'(first|((refine zqh fun K b=>?_);simp(disch:=omega)only[go_sem,Z0,↓reduceIte,Z2,Z1,q,v,e,o,p,c,d,j,w])|refine nxt ?_|refine zqu (by(simp(disch:=omega)only[go_sem,Z0,↓reduceIte,Z1,q,e,c,d]);rfl) rfl ?_|(refine b _ ?_;clear b K))
  refine z06 ?_ (z7t ?_)
  ·rw[i];simp only[pureD,pureD.pureL,Z3]
  ·clear c d j q v e o p s u r k l f m;cases x;simp only[It.kind,It.at_,It.to,It.wh,It.nth,It.unit,It.old,It.new,It.label,It.for_,It.sk,It.sd,It.se,It.act,It.item,It.day,It.event,It.by_]at h i⊢;subst h;rw[z0v,i]
   repeat'(first|exact trivial|exact XW _|exact Le.nil _|refine And.intro ?_ ?_)
 ·skip
  repeat'(first|refine nxt ?_|((refine z09 (N:=5) rfl fun K b=>?_);simp(disch:=omega)only[go_sem,Z0,↓reduceIte,reduceCtorEq,Z2,Z1,Zb,Zt,h,Z5,Z4])|(refine zqd _ rfl ?_ ?_<;>intro g<;>(first|(cases g;done)|((try omega))))|(refine b _ ?_;clear b K))
  (refine z2a (fun a=>a.t 1=.ptr 0 0/\a.t 2=.ptr 1 0/\a.t 3=.ptr 2 0/\a.H 0=some (.box 43 (z0t x))/\a.H 1=some (.box 43 zIt)/\a.H 2=some (.box 43 [.int .i64 8,.nil,.nil,.int .i64 0,.int .i64 0,.int .i64 0,.int .i64 0,.int .i64 0,.int .i64 0,.str ⟨#[]⟩,.nil,.nil,.nil,.nil,.nil,.str ⟨#[]⟩,.str ⟨#[]⟩,.int .i64 0,.int .i64 0,.str ⟨#[]⟩,.int .i64 0,.int .i64 0,.int .i64 x.day,.str ⟨#[]⟩,.nil])/\a.nx=3) ?_ ?_);rotate_left;(rintro a ⟨s,u,r,k,l,f,m⟩);rotate_left
  ·(simp(disch:=omega)only[go_sem,Z0,true_and,and_true,and_self])
   first|exact⟨rfl,rfl⟩|exact rfl
  repeat'(first|refine nxt ?_|((first|refine z09 (N:=25) rfl fun K b=>?_|refine zqq (by decide+kernel) fun K b=>?_);simp(disch:=omega)only[go_sem,Z0,Z8,↓reduceIte,reduceCtorEq,Z2,Z1,Zb,Z9,s,r,k,f,m,h,Z5,Z4])|((first|refine zqd _ rfl (fun g=>?_) (fun g=>?_)|refine zqm _ rfl (fun g=>?_) (fun g=>?_))<;>(first|(cases g;done)|((try omega))))|(refine b _ ?_;clear b K))
  obtain⟨L,i⟩:∃L:List D,L=[.int .i64 8,.nil,.nil,.int .i64 0,.int .i64 0,.int .i64 0,.int .i64 0,.int .i64 0,.int .i64 0,.str ⟨#[]⟩,.nil,.nil,.nil,.nil,.nil,.str ⟨#[]⟩,.str ⟨#[]⟩,.int .i64 0,.int .i64 0,.str ⟨#[]⟩,.int .i64 x.act,.int .i64 x.item,.int .i64 x.day,.str ⟨#[]⟩,.nil]:=⟨_,rfl⟩
  have c:L.length=25:=by rw[i];rfl
  have d:ZC 25 L=L:=Zc (by omega);have j:z1d zIt 0 L=L:=z2d _ _ (by rw[c];rfl);(refine z2a (fun a=>a.t 2=.ptr 1 0/\a.t 3=.ptr 2 0/\a.H 1=some (.box 43 zIt)/\a.H 2=some (.box 43 L)/\a.nx=3) ?_ ?_);rotate_left;(rintro a ⟨q,v,e,o,p⟩);rotate_left
  ·(simp(disch:=omega)only[go_sem,Z0,and_self,u,r,l,f,i])
  repeat'(first|((refine zqh fun K b=>?_);simp(disch:=omega)only[go_sem,Z0,↓reduceIte,Z2,Z1,q,v,e,o,p,c,d,j,w])|refine nxt ?_|refine zqu (by(simp(disch:=omega)only[go_sem,Z0,↓reduceIte,Z1,q,e,c,d]);rfl) rfl ?_|(refine b _ ?_;clear b K))
  refine z06 ?_ (z7t ?_)
  ·rw[i];simp only[pureD,pureD.pureL,Z3]
  ·clear c d j q v e o p s u r k l f m;cases x;simp only[It.kind,It.at_,It.to,It.wh,It.nth,It.unit,It.old,It.new,It.label,It.for_,It.sk,It.sd,It.se,It.act,It.item,It.day,It.event,It.by_]at h i⊢;subst h;rw[z0v,i]
   repeat'(first|exact trivial|exact XW _|exact Le.nil _|refine And.intro ?_ ?_)
 ·skip
  repeat'(first|refine nxt ?_|((refine z09 (N:=5) rfl fun K b=>?_);simp(disch:=omega)only[go_sem,Z0,↓reduceIte,reduceCtorEq,Z2,Z1,Zb,Zt,h,Z5,Z4])|(refine zqd _ rfl ?_ ?_<;>intro g<;>(first|(cases g;done)|((try omega))))|(refine b _ ?_;clear b K))
  (refine z2a (fun a=>a.t 1=.ptr 0 0/\a.t 2=.ptr 1 0/\a.t 3=.ptr 2 0/\a.H 0=some (.box 43 (z0t x))/\a.H 1=some (.box 43 zIt)/\a.H 2=some (.box 43 [.int .i64 9,.nil,.nil,.int .i64 0,.int .i64 0,.int .i64 0,.int .i64 0,.int .i64 0,.int .i64 0,.str ⟨#[]⟩,.nil,.nil,.nil,.nil,.nil,.str ⟨#[]⟩,.str ⟨#[]⟩,.int .i64 0,.int .i64 0,.str ⟨#[]⟩,.int .i64 0,.int .i64 0,.int .i64 x.day,.str ⟨#[]⟩,.nil])/\a.nx=3) ?_ ?_);rotate_left;(rintro a ⟨s,u,r,k,l,f,m⟩);rotate_left
  ·(simp(disch:=omega)only[go_sem,Z0,true_and,and_true,and_self])
   first|exact⟨rfl,rfl⟩|exact rfl
  repeat'(first|refine nxt ?_|((first|refine z09 (N:=25) rfl fun K b=>?_|refine zqq (by decide+kernel) fun K b=>?_);simp(disch:=omega)only[go_sem,Z0,Z8,↓reduceIte,reduceCtorEq,Z2,Z1,Zb,Z9,s,r,k,f,m,h,Z5,Z4])|((first|refine zqd _ rfl (fun g=>?_) (fun g=>?_)|refine zqm _ rfl (fun g=>?_) (fun g=>?_))<;>(first|(cases g;done)|((try omega))))|(refine b _ ?_;clear b K))
  obtain⟨L,i⟩:∃L:List D,L=[.int .i64 9,.nil,.nil,.int .i64 0,.int .i64 0,.int .i64 0,.int .i64 0,.int .i64 0,.int .i64 0,.str ⟨#[]⟩,.nil,.nil,.nil,.nil,.nil,.str ⟨#[]⟩,.str ⟨#[]⟩,.int .i64 0,.int .i64 0,.str ⟨#[]⟩,.int .i64 x.act,.int .i64 x.item,.int .i64 x.day,.str ⟨#[]⟩,.nil]:=⟨_,rfl⟩
  have c:L.length=25:=by rw[i];rfl
  have d:ZC 25 L=L:=Zc (by omega);have j:z1d zIt 0 L=L:=z2d _ _ (by rw[c];rfl);(refine z2a (fun a=>a.t 2=.ptr 1 0/\a.t 3=.ptr 2 0/\a.H 1=some (.box 43 zIt)/\a.H 2=some (.box 43 L)/\a.nx=3) ?_ ?_);rotate_left;(rintro a ⟨q,v,e,o,p⟩);rotate_left
  ·(simp(disch:=omega)only[go_sem,Z0,and_self,u,r,l,f,i])
  repeat'(first|((refine zqh fun K b=>?_);simp(disch:=omega)only[go_sem,Z0,↓reduceIte,Z2,Z1,q,v,e,o,p,c,d,j,w])|refine nxt ?_|refine zqu (by(simp(disch:=omega)only[go_sem,Z0,↓reduceIte,Z1,q,e,c,d]);rfl) rfl ?_|(refine b _ ?_;clear b K))
  refine z06 ?_ (z7t ?_)
  ·rw[i];simp only[pureD,pureD.pureL,Z3]
  ·clear c d j q v e o p s u r k l f m;cases x;simp only[It.kind,It.at_,It.to,It.wh,It.nth,It.unit,It.old,It.new,It.label,It.for_,It.sk,It.sd,It.se,It.act,It.item,It.day,It.event,It.by_]at h i⊢;subst h;rw[z0v,i]
   repeat'(first|exact trivial|exact XW _|exact Le.nil _|refine And.intro ?_ ?_)
 ·skip
  repeat'(first|refine nxt ?_|((refine z09 (N:=5) rfl fun K b=>?_);simp(disch:=omega)only[go_sem,Z0,↓reduceIte,reduceCtorEq,Z2,Z1,Zb,Zt,h,Z5,Z4])|(refine zqd _ rfl ?_ ?_<;>intro g<;>(first|(cases g;done)|((try omega))))|(refine b _ ?_;clear b K))
  (refine z2a (fun a=>a.t 1=.ptr 0 0/\a.t 2=.ptr 1 0/\a.t 3=.ptr 2 0/\a.H 0=some (.box 43 (z0t x))/\a.H 1=some (.box 43 zIt)/\a.H 2=some (.box 43 [.int .i64 10,.nil,.nil,.int .i64 0,.int .i64 0,.int .i64 0,.int .i64 0,.int .i64 0,.int .i64 0,.str ⟨#[]⟩,.nil,.nil,.nil,.nil,.nil,.str ⟨#[]⟩,.str ⟨#[]⟩,.int .i64 0,.int .i64 0,.str ⟨#[]⟩,.int .i64 0,.int .i64 0,.int .i64 x.day,.str ⟨#[]⟩,.nil])/\a.nx=3) ?_ ?_);rotate_left;(rintro a ⟨s,u,r,k,l,f,m⟩);rotate_left
  ·(simp(disch:=omega)only[go_sem,Z0,true_and,and_true,and_self])
   first|exact⟨rfl,rfl⟩|exact rfl
  repeat'(first|refine nxt ?_|((first|refine z09 (N:=25) rfl fun K b=>?_|refine zqr fun K b=>?_);simp(disch:=omega)only[go_sem,Z0,↓reduceIte,reduceCtorEq,Z2,Z1,Zb,Z9,s,r,k,f,m,h,Z5,Z4])|((first|refine zqd _ rfl (fun g=>?_) (fun g=>?_)|refine zqm _ rfl (fun g=>?_) (fun g=>?_))<;>(first|(cases g;done)|((try omega))))|(refine b _ ?_;clear b K))
  obtain⟨L,i⟩:∃L:List D,L=[.int .i64 10,.nil,.nil,.int .i64 0,.int .i64 0,.int .i64 0,.int .i64 0,.int .i64 0,.int .i64 0,.str ⟨#[]⟩,.nil,.nil,.nil,.nil,.nil,.str ⟨#[]⟩,.str ⟨#[]⟩,.int .i64 0,.int .i64 0,.str ⟨#[]⟩,.int .i64 0,.int .i64 0,.int .i64 x.day,.str x.event,.nil]:=⟨_,rfl⟩
  have c:L.length=25:=by rw[i];rfl
  have d:ZC 25 L=L:=Zc (by omega);have j:z1d zIt 0 L=L:=z2d _ _ (by rw[c];rfl);(refine z2a (fun a=>a.t 2=.ptr 1 0/\a.t 3=.ptr 2 0/\a.H 1=some (.box 43 zIt)/\a.H 2=some (.box 43 L)/\a.nx=3) ?_ ?_);rotate_left;(rintro a ⟨q,v,e,o,p⟩);rotate_left
  ·(simp(disch:=omega)only[go_sem,Z0,and_self,u,r,l,f,i])
  repeat'(first|((refine zqh fun K b=>?_);simp(disch:=omega)only[go_sem,Z0,↓reduceIte,Z2,Z1,q,v,e,o,p,c,d,j,w])|refine nxt ?_|refine zqu (by(simp(disch:=omega)only[go_sem,Z0,↓reduceIte,Z1,q,e,c,d]);rfl) rfl ?_|(refine b _ ?_;clear b K))
  refine z06 ?_ (z7t ?_)
  ·rw[i];simp only[pureD,pureD.pureL,Z3]
  ·clear c d j q v e o p s u r k l f m;cases x;simp only[It.kind,It.at_,It.to,It.wh,It.nth,It.unit,It.old,It.new,It.label,It.for_,It.sk,It.sd,It.se,It.act,It.item,It.day,It.event,It.by_]at h i⊢;subst h;rw[z0v,i]
   repeat'(first|exact trivial|exact XW _|exact Le.nil _|refine And.intro ?_ ?_)
 ·skip
  repeat'(first|refine nxt ?_|((refine z09 (N:=5) rfl fun K b=>?_);simp(disch:=omega)only[go_sem,Z0,↓reduceIte,reduceCtorEq,Z2,Z1,Zb,Zt,h,Z5,Z4])|(refine zqd _ rfl ?_ ?_<;>intro g<;>(first|(cases g;done)|((try omega))))|(refine b _ ?_;clear b K))
  (refine z2a (fun a=>a.t 1=.ptr 0 0/\a.t 2=.ptr 1 0/\a.t 3=.ptr 2 0/\a.H 0=some (.box 43 (z0t x))/\a.H 1=some (.box 43 zIt)/\a.H 2=some (.box 43 [.int .i64 11,.nil,.nil,.int .i64 0,.int .i64 0,.int .i64 0,.int .i64 0,.int .i64 0,.int .i64 0,.str ⟨#[]⟩,.nil,.nil,.nil,.nil,.nil,.str ⟨#[]⟩,.str ⟨#[]⟩,.int .i64 0,.int .i64 0,.str ⟨#[]⟩,.int .i64 0,.int .i64 0,.int .i64 x.day,.str ⟨#[]⟩,.nil])/\a.nx=3) ?_ ?_);rotate_left;(rintro a ⟨s,u,r,k,l,f,m⟩);rotate_left
  ·(simp(disch:=omega)only[go_sem,Z0,true_and,and_true,and_self])
   first|exact⟨rfl,rfl⟩|exact rfl
  repeat'(first|refine nxt ?_|((first|refine z09 (N:=25) rfl fun K b=>?_|refine zqq (by decide+kernel) fun K b=>?_);simp(disch:=omega)only[go_sem,Z0,Z8,↓reduceIte,reduceCtorEq,Z2,Z1,Zb,Z9,s,r,k,f,m,h,z5e,Z5,Z4])|((first|refine zqd _ rfl (fun g=>?_) (fun g=>?_)|refine zqm _ rfl (fun g=>?_) (fun g=>?_))<;>(first|(cases g;done)|((try omega))))|(refine b _ ?_;clear b K))
  obtain⟨L,i⟩:∃L:List D,L=[.int .i64 11,.nil,.nil,.int .i64 0,.int .i64 0,.int .i64 0,.int .i64 0,.int .i64 0,.int .i64 0,.str ⟨#[]⟩,.nil,.nil,.nil,.nil,.nil,.str ⟨#[]⟩,.str ⟨#[]⟩,.int .i64 0,.int .i64 0,.str ⟨#[]⟩,.int .i64 x.act,.int .i64 x.item,.int .i64 0,.str ⟨#[]⟩,z5e x.by_]:=⟨_,rfl⟩
  have c:L.length=25:=by rw[i];rfl
  have d:ZC 25 L=L:=Zc (by omega);have j:z1d zIt 0 L=L:=z2d _ _ (by rw[c];rfl);(refine z2a (fun a=>a.t 2=.ptr 1 0/\a.t 3=.ptr 2 0/\a.H 1=some (.box 43 zIt)/\a.H 2=some (.box 43 L)/\a.nx=3) ?_ ?_);rotate_left;(rintro a ⟨q,v,e,o,p⟩);rotate_left
  ·(simp(disch:=omega)only[go_sem,Z0,and_self,u,r,l,f,i,z5e])
  repeat'(first|((refine zqh fun K b=>?_);simp(disch:=omega)only[go_sem,Z0,↓reduceIte,Z2,Z1,q,v,e,o,p,c,d,j,w])|refine nxt ?_|refine zqu (by(simp(disch:=omega)only[go_sem,Z0,↓reduceIte,Z1,q,e,c,d]);rfl) rfl ?_|(refine b _ ?_;clear b K))
  refine z06 ?_ (z7t ?_)
  ·rw[i];simp only[pureD,pureD.pureL,zv1,Z3]
  ·clear c d j q v e o p s u r k l f m;cases x;simp only[It.kind,It.at_,It.to,It.wh,It.nth,It.unit,It.old,It.new,It.label,It.for_,It.sk,It.sd,It.se,It.act,It.item,It.day,It.event,It.by_]at h i⊢;subst h;rw[z0v,i]
   repeat'(first|exact trivial|exact XW _|exact Le.nil _|refine And.intro ?_ ?_)
end
section
open Abs Facts Tr
attribute [local irreducible] awp
set_option maxRecDepth 100000
set_option maxHeartbeats 16000000 in
theorem znl:∀x:It,OkI x->PC prog 29 [zfp x] (.bool (zdx x)):=by
  refine zuu fun x ih hx=>?_;obtain⟨b,hk⟩:=(zcd x).1 hx;obtain⟨⟨a1,M⟩,⟨a2,O⟩,⟨P,C⟩,⟨Q,w⟩,a5,⟨u1,u2,u3⟩,s1,s2,s3,s4⟩:=b;have m1:1000<=maxLen:=by unfold maxLen;omega
  have A:=zaj x.kind 0 11;have k:=ztl x;unfold mayF at k;refine z14 1 (by simp only[pureD.pureL,z5p,Z3]) rfl (zqzj [] func29 rfl (by decide+kernel) rfl ?_)
  by_cases U:0<=x.kind/\x.kind<=11
  case neg =>
    have v:inB x.kind 0 11=false:=decide_eq_false U;rw[v]at A k;rw[ZZ,ZZ]at k;rw[k]
    repeat'(first|refine nxt ?_|((first|refine z09 (N:=3) rfl fun K i=>?_|refine z1s (N:=3) rfl (by decide+kernel) fun K i=>?_|refine zqt (A) ?_);simp(disch:=omega)only[go_sem,Z0,↓reduceIte,reduceCtorEq,Z2])|(refine zqd _ rfl ?_ ?_<;>intro f<;>(first|(cases f;done)|((try omega))))|refine zqU ?_|(refine i _ ?_;clear i K))
    exact z01 rfl
  have v:inB x.kind 0 11=true:=decide_eq_true U;rw[v,ZI]at k;rw[v]at A;have hf:=ok_fit x hx;have R:=pc_told x U;have E:=pc_SameI x hf (ztk x) (fit_told x hf)
  by_cases F:x=ztk x
  case neg =>
    rw[decide_eq_false F,ZZ]at k;rw[decide_eq_false F]at E;rw[k]
    repeat'(first|refine nxt ?_|((first|refine z09 (N:=3) rfl fun K i=>?_|refine z1s (N:=3) rfl (by decide+kernel) fun K i=>?_|refine zqt (A) ?_|refine zqt (R) ?_|refine zqt (E) ?_);simp(disch:=omega)only[go_sem,Z0,↓reduceIte,reduceCtorEq,Z2,Z1])|(refine zqd _ rfl ?_ ?_<;>intro f<;>(first|(cases f;done)|((try omega))))|refine zqU ?_|(refine i _ ?_;clear i K))
    exact z01 rfl
  rw[decide_eq_true F,ZI]at k;rw[decide_eq_true F]at E;have Z:=ztr x.at_ (by omega) fun s u=>by have:=M s u;omega
  have c5:=zjz x.for_ (by omega);have c6:=pc_start x.sk x.sd x.se (by omega)
  repeat'(first|refine nxt ?_|((first|refine z09 (N:=3) rfl fun K i=>?_|refine z1s (N:=3) rfl (by decide+kernel) fun K i=>?_|refine zqt (A) ?_|refine zqt (R) ?_|refine zqt (E) ?_);simp(disch:=omega)only[go_sem,Z0,↓reduceIte,reduceCtorEq,Z2,Z1])|(refine zqd _ rfl ?_ ?_<;>intro f<;>(first|(cases f;done)|((try omega))))|(refine i _ ?_;clear i K))
  obtain⟨b,g⟩:∃b,b=zdx x:=⟨_,rfl⟩
  rw[<-g]at k⊢;clear F R E;(refine z5o (fun Y=>Y.t 1=.ptr 0 0/\Y.H 0=some (.box 43 (z0t x))/\(b=z5u x (x.by_.map zdx))) ?_ ?_);rotate_left;(rintro Y ⟨n,j,X⟩);rotate_left
  · by_cases h6:x.kind<=6
    · rw[decide_eq_false (by omega),Ys]at k
      repeat'(first|((first|refine zqh fun K i=>?_|refine zqs (Z) ?_|refine zqs (c5) ?_|refine zqs (c6) ?_);simp(disch:=omega)only[go_sem,Z0,↓reduceIte,reduceCtorEq,Z2,h6,z0k])|((refine zqm _ rfl (fun f=>?_) (fun f=>?_))<;>(first|(cases f;done)|((try simp only[z05]at f);try omega)))|refine nxt ?_|refine zqU ?_|(refine i _ ?_;clear i K)|(refine zqf (fun g=>?_) (fun g=>?_)<;>(have a:=g;try simp only[z05]at a)<;>((first|have d:(_:Bool)=_:=a|have d:=eq_false a|have d:=eq_true a);simp(disch:=omega)only[go_sem,Z0,↓reduceIte,reduceCtorEq,Z2,Z1,d];clear g d;try omega)))
      all_goals first
        |(clear g;refine z01 ?_;rw[k];simp[*,z3h];done)
        |((refine z5s ?_);simp(disch:=omega)only[go_sem,Z0,true_and]
          clear g;rw[k];simp[*,z3h];done)
       
    · rw[decide_eq_true (by omega),Yw,ZI]at k
      repeat'(first|((refine zqh fun K i=>?_);simp(disch:=omega)only[go_sem,Z0,↓reduceIte,reduceCtorEq,Z2])|((refine zqm _ rfl (fun f=>?_) (fun f=>?_))<;>(first|(cases f;done)|((try omega))))|refine nxt ?_|(refine i _ ?_;clear i K)|(refine zqf (fun g=>?_) (fun g=>?_)<;>(have a:=g;try simp only[z05]at a)<;>((first|have d:=eq_false a|have d:=eq_true a);simp(disch:=omega)only[go_sem,Z0,↓reduceIte,reduceCtorEq,Z2,d];clear g d;try omega)))
      (refine z5s ?_);simp(disch:=omega)only[go_sem,Z0,true_and];exact k
  subst X;clear k A Z c5 c6;rcases(show x.kind=0 \/ x.kind=1 \/ x.kind=2 \/ x.kind=3 \/ x.kind=4 \/ x.kind=5 \/ x.kind=6 \/ x.kind=7 \/ x.kind=8 \/ x.kind=9 \/ x.kind=10 \/ x.kind=11 by omega)with h|h|h|h|h|h|h|h|h|h|h|h
  · have e:z5u x (x.by_.map zdx)=(inB x.wh 0 3&&(z6y x.unit&&decide (x.unit=z97 x.unit)&&(!decide (x.unit.kind=0)&&decide ((textT x.unit).2=0)))):=by
      unfold z5u;rw[if_pos (c:=x.kind=0) (by omega)]
    rw[e];have m:=pc_Text11 x.unit u1 (by omega) (by omega);have o:=zaj x.wh 0 3;have q:=pc_Bare x.unit u1 (by omega) (by omega);have W:(z0t x)[8]?=some (.int .i64 x.unit.kind):=by rw[z0v];rfl
    generalize (z6y x.unit&&decide (x.unit=z97 x.unit))=B at q⊢;clear e
    repeat'(first|refine nxt ?_|((first|refine zqh fun K i=>?_|refine zqs (m) ?_|refine zqs (o) ?_|refine zqs (q) ?_);simp(disch:=omega)only[go_sem,Z0,↓reduceIte,reduceCtorEq,Z2,Z1,n,j,h])|((refine zqm _ rfl (fun f=>?_) (fun f=>?_))<;>(first|(cases f;done)|((try omega))))|refine zqU ?_|(refine i _ ?_;clear i K)|(refine zqf (fun g=>?_) (fun g=>?_)<;>(have a:=g;try simp only[z05]at a)<;>((first|have d:(_:Bool)=_:=a|have d:=eq_false a|have d:=eq_true a);simp(disch:=omega)only[go_sem,Z0,↓reduceIte,reduceCtorEq,Z2,Z1,g,d,n,j,W];clear g d;try omega)))
    all_goals first
      |exact z01 rfl
      |(refine z01 ?_;simp[*];done)
      |skip
  · have e:z5u x (x.by_.map zdx)=(true):=by
      unfold z5u;rw[if_neg (c:=x.kind=0) (by omega),if_neg (c:=x.kind=2) (by omega),if_neg (c:=x.kind=3) (by omega),if_neg (c:=x.kind=4) (by omega),if_neg (c:=x.kind=5) (by omega),if_neg (c:=x.kind=6) (by omega),if_neg (c:=x.kind=7 \/ x.kind=8 \/ x.kind=9) (by omega),if_neg (c:=x.kind=10) (by omega),if_neg (c:=x.kind=11) (by omega)]
    rw[e]
    repeat'(first|refine nxt ?_|((refine zqh fun K i=>?_);simp(disch:=omega)only[go_sem,Z0,↓reduceIte,reduceCtorEq,Z2,Z9,n,j,h])|((first|refine zqd _ rfl (fun f=>?_) (fun f=>?_)|refine zqm _ rfl (fun f=>?_) (fun f=>?_))<;>(first|(cases f;done)|((try omega))))|refine zqU ?_|(refine i _ ?_;clear i K))
    all_goals first
      |exact z01 rfl
      |(refine z01 ?_;simp[*];done)
      |skip
  · have e:z5u x (x.by_.map zdx)=(zee x.old&&decide (1<=x.old.length)&&(zee x.new&&inB x.nth 0 256)):=by
      unfold z5u;rw[if_neg (c:=x.kind=0) (by omega),if_pos (c:=x.kind=2) (by omega)]
    rw[e];have m:=zf8 x.old (by omega) (fun s u=>by have:=C s u;omega) 1;have o:=zf8 x.new (by omega) (fun s u=>by have:=w s u;omega) 0;have q:=zaj x.nth 0 256;have G:=P;have I:=Q;have J:∀l:List ByteArray,decide ((0:Int)<=(l.length:Int))=true:=fun l=>decide_eq_true (by omega);have L:∀l:List ByteArray,decide ((1:Int)<=(l.length:Int))=decide (1<=l.length):=fun l=>decide_eq_decide.2 (by omega);simp only[J,L,Y3]at m o;clear e;generalize (zee x.old&&decide (1<=x.old.length))=B at m⊢
    repeat'(first|refine nxt ?_|((first|refine zqh fun K i=>?_|refine zqs (m) ?_|refine zqs (o) ?_|refine zqs (q) ?_);simp(disch:=omega)only[go_sem,Z0,↓reduceIte,reduceCtorEq,Z2,Z9,n,j,h,z1n])|((refine zqm _ rfl (fun f=>?_) (fun f=>?_))<;>(first|(cases f;done)|((try omega))))|refine zqU ?_|(refine i _ ?_;clear i K)|(refine zqf (fun g=>?_) (fun g=>?_)<;>(have a:=g;try simp only[z05]at a)<;>((have d:(_:Bool)=_:=a);simp(disch:=omega)only[go_sem,Z0,↓reduceIte,reduceCtorEq,Z2,g,n,j,z1n];clear g d;try omega)))
    all_goals first
      |exact z01 rfl
      |(refine z01 ?_;simp[*];done)
      |skip
  · have e:z5u x (x.by_.map zdx)=(zee x.old&&(zee x.new&&decide (1<=x.new.length)&&(inB x.nth 0 256&&(decide (0<x.old.length) ||decide (x.nth=0))))):=by
      unfold z5u;rw[if_neg (c:=x.kind=0) (by omega),if_neg (c:=x.kind=2) (by omega),if_pos (c:=x.kind=3) (by omega)]
    rw[e];have m:=zf8 x.old (by omega) (fun s u=>by have:=C s u;omega) 0;have o:=zf8 x.new (by omega) (fun s u=>by have:=w s u;omega) 1;have q:=zaj x.nth 0 256;have G:=P;have I:=Q;have J:∀l:List ByteArray,decide ((0:Int)<=(l.length:Int))=true:=fun l=>decide_eq_true (by omega);have L:∀l:List ByteArray,decide ((1:Int)<=(l.length:Int))=decide (1<=l.length):=fun l=>decide_eq_decide.2 (by omega);simp only[J,L,Y3]at m o;clear e;generalize (zee x.new&&decide (1<=x.new.length))=B at o⊢
    by_cases z:0<x.old.length
    · rw[decide_eq_true z,Yw]
      repeat'(first|refine nxt ?_|((first|refine zqh fun K i=>?_|refine zqs (m) ?_|refine zqs (o) ?_|refine zqs (q) ?_);simp(disch:=omega)only[go_sem,Z0,↓reduceIte,reduceCtorEq,Z2,Z9,n,j,h,z1n])|((refine zqm _ rfl (fun f=>?_) (fun f=>?_))<;>(first|(cases f;done)|((try omega))))|refine zqU ?_|(refine i _ ?_;clear i K)|(refine zqf (fun g=>?_) (fun g=>?_)<;>(have a:=g;try simp only[z05]at a)<;>((first|have d:(_:Bool)=_:=a|have d:=eq_false a|have d:=eq_true a);simp(disch:=omega)only[go_sem,Z0,↓reduceIte,reduceCtorEq,Z2,g,d,n,j,z1n];clear g d;try omega)))
      all_goals first
        |exact z01 rfl
        |(refine z01 ?_;simp[*];done)
        |skip
    · rw[decide_eq_false z,Ys]
      repeat'(first|refine nxt ?_|((first|refine zqh fun K i=>?_|refine zqs (m) ?_|refine zqs (o) ?_|refine zqs (q) ?_);simp(disch:=omega)only[go_sem,Z0,↓reduceIte,reduceCtorEq,Z2,Z9,n,j,h,z1n])|((refine zqm _ rfl (fun f=>?_) (fun f=>?_))<;>(first|(cases f;done)|((try omega))))|refine zqU ?_|(refine i _ ?_;clear i K)|(refine zqf (fun g=>?_) (fun g=>?_)<;>(have a:=g;try simp only[z05]at a)<;>((first|have d:(_:Bool)=_:=a|have d:=eq_false a|have d:=eq_true a);simp(disch:=omega)only[go_sem,Z0,↓reduceIte,reduceCtorEq,Z2,g,d,n,j,z1n];clear g d;try omega)))
      all_goals first
        |exact z01 rfl
        |(refine z01 ?_;simp[*];done)
        |skip
  · have e:z5u x (x.by_.map zdx)=(zee x.new):=by
      unfold z5u;rw[if_neg (c:=x.kind=0) (by omega),if_neg (c:=x.kind=2) (by omega),if_neg (c:=x.kind=3) (by omega),if_pos (c:=x.kind=4) (by omega)]
    rw[e];have m:=zf8 x.new (by omega) (fun s u=>by have:=w s u;omega) 0;have G:=P;have I:=Q;have J:∀l:List ByteArray,decide ((0:Int)<=(l.length:Int))=true:=fun l=>decide_eq_true (by omega);have L:∀l:List ByteArray,decide ((1:Int)<=(l.length:Int))=decide (1<=l.length):=fun l=>decide_eq_decide.2 (by omega);simp only[J,Y3]at m;clear e
    repeat'(first|refine nxt ?_|((first|refine zqh fun K i=>?_|refine zqs (m) ?_);simp(disch:=omega)only[go_sem,Z0,↓reduceIte,reduceCtorEq,Z2,Z9,n,j,h,z1n])|((refine zqm _ rfl (fun f=>?_) (fun f=>?_))<;>(first|(cases f;done)|((try omega))))|refine zqU ?_|(refine i _ ?_;clear i K))
    all_goals first
      |exact z01 rfl
      |(refine z01 ?_;simp[*];done)
      |skip
  · have e:z5u x (x.by_.map zdx)=(z3x x.label):=by
      unfold z5u;rw[if_neg (c:=x.kind=0) (by omega),if_neg (c:=x.kind=2) (by omega),if_neg (c:=x.kind=3) (by omega),if_neg (c:=x.kind=4) (by omega),if_pos (c:=x.kind=5) (by omega)]
    rw[e];have m:=zhy x.label (by omega)
    repeat'(first|refine nxt ?_|((first|refine zqh fun K i=>?_|refine zqs (m) ?_);simp(disch:=omega)only[go_sem,Z0,↓reduceIte,reduceCtorEq,Z2,Z9,n,j,h])|((refine zqm _ rfl (fun f=>?_) (fun f=>?_))<;>(first|(cases f;done)|((try omega))))|refine zqU ?_|(refine i _ ?_;clear i K))
    all_goals first
      |exact z01 rfl
      |(refine z01 ?_;simp[*];done)
      |skip
  · have e:z5u x (x.by_.map zdx)=(inB x.wh 0 3&&zbi x.to):=by
      unfold z5u;rw[if_neg (c:=x.kind=0) (by omega),if_neg (c:=x.kind=2) (by omega),if_neg (c:=x.kind=3) (by omega),if_neg (c:=x.kind=4) (by omega),if_neg (c:=x.kind=5) (by omega),if_pos (c:=x.kind=6) (by omega)]
    rw[e];have m:=zaj x.wh 0 3;have o:=ztr x.to (by omega) fun s u=>by have:=O s u;omega
    repeat'(first|refine nxt ?_|((first|refine zqh fun K i=>?_|refine zqs (m) ?_|refine zqs (o) ?_);simp(disch:=omega)only[go_sem,Z0,↓reduceIte,reduceCtorEq,Z2,Z9,n,j,h])|((refine zqm _ rfl (fun f=>?_) (fun f=>?_))<;>(first|(cases f;done)|((try omega))))|refine zqU ?_|(refine i _ ?_;clear i K)|(refine zqf (fun g=>?_) (fun g=>?_)<;>(have a:=g;try simp only[z05]at a)<;>((have d:(_:Bool)=_:=a);simp(disch:=omega)only[go_sem,Z0,↓reduceIte,reduceCtorEq,Z2,g,n,j];clear g d;try omega)))
    all_goals first
      |exact z01 rfl
      |(refine z01 ?_;simp[*];done)
      |skip
  · have e:z5u x (x.by_.map zdx)=(inB x.act 1 1048576&&(inB x.item (-1) 31&&inB x.day 0 1048576)):=by
      unfold z5u;rw[if_neg (c:=x.kind=0) (by omega),if_neg (c:=x.kind=2) (by omega),if_neg (c:=x.kind=3) (by omega),if_neg (c:=x.kind=4) (by omega),if_neg (c:=x.kind=5) (by omega),if_neg (c:=x.kind=6) (by omega),if_pos (c:=x.kind=7 \/ x.kind=8 \/ x.kind=9) (by omega)]
    rw[e];have m:=zaj x.act 1 1048576;have o:=zaj x.item (-1) 31;have q:=zaj x.day 0 1048576
    repeat'(first|refine nxt ?_|((first|refine zqh fun K i=>?_|refine zqs (m) ?_|refine zqs (o) ?_|refine zqs (q) ?_);simp(disch:=omega)only[go_sem,Z0,↓reduceIte,reduceCtorEq,Z2,Z9,n,j,h])|((first|refine zqd _ rfl (fun f=>?_) (fun f=>?_)|refine zqm _ rfl (fun f=>?_) (fun f=>?_))<;>(first|(cases f;done)|((try omega))))|refine zqU ?_|(refine i _ ?_;clear i K)|(refine zqf (fun g=>?_) (fun g=>?_)<;>(have a:=g;try simp only[z05]at a)<;>((have d:(_:Bool)=_:=a);simp(disch:=omega)only[go_sem,Z0,↓reduceIte,reduceCtorEq,Z2,g,n,j];clear g d;try omega)))
    all_goals first
      |exact z01 rfl
      |(refine z01 ?_;simp[*];done)
      |skip
  · have e:z5u x (x.by_.map zdx)=(inB x.act 1 1048576&&(inB x.item (-1) 31&&inB x.day 0 1048576)):=by
      unfold z5u;rw[if_neg (c:=x.kind=0) (by omega),if_neg (c:=x.kind=2) (by omega),if_neg (c:=x.kind=3) (by omega),if_neg (c:=x.kind=4) (by omega),if_neg (c:=x.kind=5) (by omega),if_neg (c:=x.kind=6) (by omega),if_pos (c:=x.kind=7 \/ x.kind=8 \/ x.kind=9) (by omega)]
    rw[e];have m:=zaj x.act 1 1048576;have o:=zaj x.item (-1) 31;have q:=zaj x.day 0 1048576
    repeat'(first|refine nxt ?_|((first|refine zqh fun K i=>?_|refine zqs (m) ?_|refine zqs (o) ?_|refine zqs (q) ?_);simp(disch:=omega)only[go_sem,Z0,↓reduceIte,reduceCtorEq,Z2,Z9,n,j,h])|((first|refine zqd _ rfl (fun f=>?_) (fun f=>?_)|refine zqm _ rfl (fun f=>?_) (fun f=>?_))<;>(first|(cases f;done)|((try omega))))|refine zqU ?_|(refine i _ ?_;clear i K)|(refine zqf (fun g=>?_) (fun g=>?_)<;>(have a:=g;try simp only[z05]at a)<;>((have d:(_:Bool)=_:=a);simp(disch:=omega)only[go_sem,Z0,↓reduceIte,reduceCtorEq,Z2,g,n,j];clear g d;try omega)))
    all_goals first
      |exact z01 rfl
      |(refine z01 ?_;simp[*];done)
      |skip
  · have e:z5u x (x.by_.map zdx)=(inB x.act 1 1048576&&(inB x.item (-1) 31&&inB x.day 0 1048576)):=by
      unfold z5u;rw[if_neg (c:=x.kind=0) (by omega),if_neg (c:=x.kind=2) (by omega),if_neg (c:=x.kind=3) (by omega),if_neg (c:=x.kind=4) (by omega),if_neg (c:=x.kind=5) (by omega),if_neg (c:=x.kind=6) (by omega),if_pos (c:=x.kind=7 \/ x.kind=8 \/ x.kind=9) (by omega)]
    rw[e];have m:=zaj x.act 1 1048576;have o:=zaj x.item (-1) 31;have q:=zaj x.day 0 1048576
    repeat'(first|refine nxt ?_|((first|refine zqh fun K i=>?_|refine zqs (m) ?_|refine zqs (o) ?_|refine zqs (q) ?_);simp(disch:=omega)only[go_sem,Z0,↓reduceIte,reduceCtorEq,Z2,Z9,n,j,h])|((first|refine zqd _ rfl (fun f=>?_) (fun f=>?_)|refine zqm _ rfl (fun f=>?_) (fun f=>?_))<;>(first|(cases f;done)|((try omega))))|refine zqU ?_|(refine i _ ?_;clear i K)|(refine zqf (fun g=>?_) (fun g=>?_)<;>(have a:=g;try simp only[z05]at a)<;>((have d:(_:Bool)=_:=a);simp(disch:=omega)only[go_sem,Z0,↓reduceIte,reduceCtorEq,Z2,g,n,j];clear g d;try omega)))
    all_goals first
      |exact z01 rfl
      |(refine z01 ?_;simp[*];done)
      |skip
  · have e:z5u x (x.by_.map zdx)=(zjc x.event&&inB x.day 0 1048576):=by
      unfold z5u;rw[if_neg (c:=x.kind=0) (by omega),if_neg (c:=x.kind=2) (by omega),if_neg (c:=x.kind=3) (by omega),if_neg (c:=x.kind=4) (by omega),if_neg (c:=x.kind=5) (by omega),if_neg (c:=x.kind=6) (by omega),if_neg (c:=x.kind=7 \/ x.kind=8 \/ x.kind=9) (by omega),if_pos (c:=x.kind=10) (by omega)]
    rw[e];have m:=zjz x.event (by omega);have o:=zaj x.day 0 1048576
    repeat'(first|refine nxt ?_|((first|refine zqh fun K i=>?_|refine zqs (m) ?_|refine zqs (o) ?_);simp(disch:=omega)only[go_sem,Z0,↓reduceIte,reduceCtorEq,Z2,Z9,n,j,h])|((first|refine zqd _ rfl (fun f=>?_) (fun f=>?_)|refine zqm _ rfl (fun f=>?_) (fun f=>?_))<;>(first|(cases f;done)|((try omega))))|refine zqU ?_|(refine i _ ?_;clear i K)|(refine zqf (fun g=>?_) (fun g=>?_)<;>(have a:=g;try simp only[z05]at a)<;>((have d:(_:Bool)=_:=a);simp(disch:=omega)only[go_sem,Z0,↓reduceIte,reduceCtorEq,Z2,g,n,j];clear g d;try omega)))
    all_goals first
      |exact z01 rfl
      |(refine z01 ?_;simp[*];done)
      |skip
  · have e:z5u x (x.by_.map zdx)=(inB x.act 1 1048576&&(inB x.item 0 31&&(decide (x.by_.length=1)&&((x.by_.all fun y=>inB y.kind 0 6)&&(x.by_.map zdx).all id)))):=by
      unfold z5u;rw[if_neg (c:=x.kind=0) (by omega),if_neg (c:=x.kind=2) (by omega),if_neg (c:=x.kind=3) (by omega),if_neg (c:=x.kind=4) (by omega),if_neg (c:=x.kind=5) (by omega),if_neg (c:=x.kind=6) (by omega),if_neg (c:=x.kind=7 \/ x.kind=8 \/ x.kind=9) (by omega),if_neg (c:=x.kind=10) (by omega),if_pos (c:=x.kind=11) (by omega)]
    rw[e];have m:=zaj x.act 1 1048576;have o:=zaj x.item 0 31;cases r:x.by_ with
    |nil =>
      repeat'(first|refine nxt ?_|((first|refine zqh fun K i=>?_|refine zqs (m) ?_|refine zqs (o) ?_);simp(disch:=omega)only[go_sem,Z0,↓reduceIte,reduceCtorEq,Z2,Z9,n,j,h,Ze])|((first|refine zqd _ rfl (fun f=>?_) (fun f=>?_)|refine zqm _ rfl (fun f=>?_) (fun f=>?_))<;>(first|(cases f;done)|((try omega))))|refine zqu (by(simp(disch:=omega)only[go_sem,Z0,↓reduceIte]);rfl) rfl ?_|(refine i _ ?_;clear i K)|(refine zqf (fun g=>?_) (fun g=>?_)<;>(have a:=g;try simp only[z05]at a)<;>((have d:(_:Bool)=_:=a);simp(disch:=omega)only[go_sem,Z0,↓reduceIte,reduceCtorEq,Z2,g,n,j,z5e,r,Zx,Ze];clear g d;try omega)))
      all_goals first
        |exact z01 rfl
        |(refine z01 ?_;simp[*];done)
        |skip
    |cons y l =>
      have q:=zaj y.kind 0 6;have d3:=ih y (by rw[r];simp) (hk y (by rw[r];simp));have a7:x.by_.length=l.length+1:=by rw[r];rfl
      clear e g;cases l with
      |nil =>
        simp only[Zq,Zx,List.all_cons,List.all_nil,Zg,Ze,Y3,id_eq]
        repeat'(first|refine nxt ?_|((first|refine zqh fun K i=>?_|refine zqs (m) ?_|refine zqs (o) ?_|refine zqs (q) ?_|refine zqs (d3) ?_);simp(disch:=omega)only[go_sem,Z0,↓reduceIte,reduceCtorEq,Z2,Z9,n,j,h,Zg,Ze])|((first|refine zqd _ rfl (fun f=>?_) (fun f=>?_)|refine zqm _ rfl (fun f=>?_) (fun f=>?_))<;>(first|(cases f;done)|((try omega))))|refine zqU ?_|(refine i _ ?_;clear i K)|(refine zqf (fun g=>?_) (fun g=>?_)<;>(have a:=g;try simp only[z05]at a)<;>((first|have d:(_:Bool)=_:=a|have d:=eq_false a|have d:=eq_true a);simp(disch:=omega)only[go_sem,Z0,↓reduceIte,reduceCtorEq,Z2,g,d,n,j,z5e,r,zlb,Zq,Zx,Zg,Ze];clear g d;try omega)))
        all_goals first
          |exact z01 rfl
          |(refine z01 ?_;simp[*];done)
          |skip
      |cons z l =>
        rw[decide_eq_false (p:=(y::z::l).length=1) (by simp only[Zq];omega),ZZ];have a6:(z::l).length=l.length+1:=rfl;have a0:(y::z::l).length=l.length+2:=rfl
        repeat'(first|refine nxt ?_|((first|refine zqh fun K i=>?_|refine zqs (m) ?_|refine zqs (o) ?_);simp(disch:=omega)only[go_sem,Z0,↓reduceIte,reduceCtorEq,Z2,Z9,n,j,h,Zg])|((first|refine zqd _ rfl (fun f=>?_) (fun f=>?_)|refine zqm _ rfl (fun f=>?_) (fun f=>?_))<;>(first|(cases f;done)|((try omega))))|refine zqu (by(simp(disch:=omega)only[go_sem,Z0,↓reduceIte]);rfl) rfl ?_|(refine i _ ?_;clear i K)|(refine zqf (fun g=>?_) (fun g=>?_)<;>(have a:=g;try simp only[z05]at a)<;>((have d:(_:Bool)=_:=a);simp(disch:=omega)only[go_sem,Z0,↓reduceIte,reduceCtorEq,Z2,g,n,j,z5e,r,Zg];clear g d;try omega)))
        all_goals first
          |exact z01 rfl
          |(refine z01 ?_;simp[*];done)
          |(exfalso;omega)
          |skip
end
section
open Abs Facts Tr
attribute [local irreducible] awp
set_option maxRecDepth 100000
theorem zj6(k:Int):PC prog 28 [.int .i64 k] (.bool (decide (0<=k/\k<=6))):=by
 refine z14 1 rfl rfl (zqzj [] func28 rfl (by decide+kernel) rfl ?_)
 repeat'(first|((refine zqh fun K d=>?_);simp(disch:=omega)only[go_sem,Z0,↓reduceIte])|refine nxt ?_|refine zqU ?_|(refine d _ ?_;clear d K)|(refine zqf (fun c=>?_) (fun c=>?_)<;>(have a:=c;try simp only[z05]at a)<;>((first|have b:=eq_false a|have b:=eq_true a);simp(disch:=omega)only[go_sem,Z0,↓reduceIte,b];clear c b;try omega)))
 all_goals first|exact z01 (decide_eq_true (by omega)).symm|exact z01 (decide_eq_false (by omega)).symm|exact z01 (decide_eq_decide.2 (by omega))
theorem pc_FindT(u:T)(a:szB u=true)(e:cntT u<=1100)(x:It)(f:OkI x):PC prog 40 [z0o u,zfp x] (.tup [z0z (z1e u x.at_).1,.int .i64 (z1e u x.at_).2]):=by
 obtain⟨b,_⟩:=(zcd x).1 f;have g:1000<=maxLen:=by unfold maxLen;omega
 have d:=zat u a e x.at_ (by have:=b.at_.1;omega) fun s a=>by have:=b.at_.2 s a;omega
 refine z14 3 (by simp only[pureD.pureL,z02,z5p,Z3]) rfl (zqzj [] func40 rfl (by decide+kernel) rfl ?_);rw[show Tryz.f40.results.toList=[.cell 4 23,.tmp 5] from rfl]
 repeat'(first|((first|refine zqh fun K c=>?_|refine zqs (d) ?_);simp(disch:=omega)only[go_sem,Z0,↓reduceIte,reduceCtorEq,Z2,Z1,z0k])|refine nxt ?_|refine zqu (by(simp(disch:=omega)only[go_sem,Z0,↓reduceIte,Z2,Z1]);rfl) rfl ?_|(refine c _ ?_;clear c K))
 exact z06 rfl (XW _)
set_option maxHeartbeats 16000000 in
theorem pc_Do23(u:T)(q:standsT u=true)(w:szB u=true)(c:cntT u<=1100)(d:EIt)(y:OkI d.it)(hk:d.it.kind=0 \/ d.it.kind=6):PC prog 8 [z0o u,za4 d] (.tup [z0o (doR u d).1,.int .i64 (doR u d).2]):=by
 obtain⟨b,_⟩:=(zcd d.it).1 y;have A:1000<=maxLen:=by unfold maxLen;omega
 have k:=zj6 d.it.kind;have h:=znl d.it y;have r:=ztc u w c d.it.at_ (by have:=b.at_.1;omega) fun s v=>by have:=b.at_.2 s v;omega
 have p:decide (0<=d.it.kind/\d.it.kind<=6)=true:=decide_eq_true (by omega);rw[p]at k;refine z14 3 (by simp only[pureD.pureL,z02,za5,Z3]) (by simp only[pureD,pureD.pureL,z02,Z3]) (zqzj [] func8 rfl (by decide+kernel) rfl ?_);rw[show Tryz.f8.results.toList=[.cell 4 27,.tmp 5] from rfl];obtain⟨R,a⟩:∃R,R=doR u d:=⟨_,rfl⟩
 rw[<-a];unfold doR at a;rw[p,ZI]at a
 by_cases j:zdx d.it=true
 case neg =>
  rw[Zy]at j;rw[if_pos j]at a;rw[j]at h;rw[a]
  repeat'(first|refine nxt ?_|((first|refine z09 (N:=3) rfl fun K f=>?_|refine zqs (k) ?_|refine zqs (h) ?_);simp(disch:=omega)only[go_sem,Z0,↓reduceIte,reduceCtorEq,Z2,Z1])|(refine zqd _ rfl ?_ ?_<;>intro c<;>(first|(cases c;done)|((try omega))))|refine zqu (by(simp(disch:=omega)only[go_sem,Z0,↓reduceIte,Z1]);rfl) rfl ?_|(refine f _ ?_;clear f K))
  exact z06 (by simp only[pureD,pureD.pureL,z04,Z3]) (XW _)
 rw[if_neg (by rw[j];decide)]at a;rw[j]at h
 by_cases m:(z1e u d.it.at_).2=0
 case neg =>
  rw[if_pos m]at a;have z:decide ((z1e u d.it.at_).2=0)=false:=decide_eq_false m;rw[a]
  repeat'(first|refine nxt ?_|((first|refine z09 (N:=6) rfl fun K f=>?_|refine zqs (k) ?_|refine zqs (h) ?_|refine zqs (r) ?_);simp(disch:=omega)only[go_sem,Z0,↓reduceIte,reduceCtorEq,Z2,Z1,z0k])|(refine zqd _ rfl ?_ ?_<;>intro c<;>(first|(cases c;done)|((try simp only[z05]at c);try omega)))|refine zqu (by(simp(disch:=omega)only[go_sem,Z0,↓reduceIte,Z1]);rfl) rfl ?_|(refine f _ ?_;clear f K))
  exact z06 (by simp only[pureD,pureD.pureL,z04,Z3]) (XW _)
 rw[if_neg (by simpa using m)]at a;have o:(z1e u d.it.at_).1∈idsT u:=zew (e:=(z1e u d.it.at_).2) rfl m;have x:=may_wh j hk;rw[m]at r;rcases hk with hk|hk
 ·rw[if_pos hk]at a;have l:=zu8 u q w c (z1e u d.it.at_).1 o d x b.unit.1 b.unit.2.1 (by have:=b.unit.2.2;omega);rw[<-(ZU a).1,<-(ZU a).2]at l;have g:decide (d.it.kind=0)=true:=decide_eq_true hk
  repeat'(first|refine nxt ?_|((first|refine zqh fun K f=>?_|refine zqs (k) ?_|refine zqs (h) ?_|refine zqs (r) ?_|refine zqs (l) ?_);simp(disch:=omega)only[go_sem,Z0,↓reduceIte,reduceCtorEq,Z2,Z1,z0k,g])|(refine zqd _ rfl ?_ ?_<;>intro c<;>(first|(cases c;done)|((try omega))))|refine zqu (by(simp(disch:=omega)only[go_sem,Z0,↓reduceIte,Z1]);rfl) rfl ?_|(refine f _ ?_;clear f K))
  exact z06 (by simp only[pureD,pureD.pureL,z04,Z3]) (XW _)
 ·rw[if_neg (by omega)]at a;have l:=pc_move23 u q w c (z1e u d.it.at_).1 o d x (by have:=b.to.1;omega) fun s v=>by have:=b.to.2 s v;omega
  have n:R=(if (z1e u d.it.to).2=0 then z57 u (z1e u d.it.at_).1 (z1e u d.it.to).1 d.it.wh else u,if (z1e u d.it.to).2=0 then z67 u (z1e u d.it.at_).1 (z1e u d.it.to).1 d.it.wh else (z1e u d.it.to).2):=by
   rw[a]
   by_cases i:(z1e u d.it.to).2=0
   ·rw[if_neg (by simpa using i),if_pos i,if_pos i]
   ·rw[if_pos i,if_neg i,if_neg i]
  rw[<-(ZU n).1,<-(ZU n).2]at l;have g:decide (d.it.kind=0)=false:=decide_eq_false (by omega);have t:decide (d.it.kind=6)=true:=decide_eq_true hk
  repeat'(first|refine nxt ?_|((first|refine zqh fun K f=>?_|refine zqs (k) ?_|refine zqs (h) ?_|refine zqs (r) ?_|refine zqs (l) ?_);simp(disch:=omega)only[go_sem,Z0,↓reduceIte,reduceCtorEq,Z2,Z1,z0k,g,t])|(refine zqd _ rfl ?_ ?_<;>intro c<;>(first|(cases c;done)|((try omega))))|refine zqu (by(simp(disch:=omega)only[go_sem,Z0,↓reduceIte,Z1]);rfl) rfl ?_|(refine f _ ?_;clear f K))
  exact z06 (by simp only[pureD,pureD.pureL,z04,Z3]) (XW _)
theorem zy3(u:T)(n:fitB u=true)(most:Int)(i:0<=most)(j:most<=1000):PC prog 5 [z0o u,.int .i64 most] (.bool (bookB u most)):=by
 have f:=pc_Few u n most i j;refine z14 1 (by simp only[pureD.pureL,z02,pureD,Z3]) rfl (zqzj [] func5 rfl (by decide+kernel) rfl ?_);unfold bookB
 by_cases e:fewB u most=true
 case neg =>
  rw[Zy]at e;rw[e]at f⊢
  repeat'(first|((first|refine zqh fun K c=>?_|refine zqe (by decide+kernel) fun K c=>?_|refine zqt (f) ?_);simp(disch:=omega)only[go_sem,Z0,↓reduceIte,Z2,Z1])|refine nxt ?_|refine zqU ?_|(refine c _ ?_;clear c K))
  exact z01 rfl
 obtain⟨m,q,r⟩:=few_sz i j e;have h:=pc_May u m (by omega) (by omega);rw[e]at f⊢;rw[ZI];have o:=((z1k u).1 m).2.2.2.2.2.1;have p:Int.toNat 0=0:=rfl;cases g:u.kids with
 |nil =>
  repeat'(first|((first|refine zqh fun K c=>?_|refine zqe (by decide+kernel) fun K c=>?_|refine zqt (f) ?_|refine zqt (h) ?_);simp(disch:=omega)only[go_sem,Z0,↓reduceIte,reduceCtorEq,Z2,Z1,Ze])|refine nxt ?_|refine zqu (by(simp(disch:=omega)only[go_sem,Z0,↓reduceIte]);rfl) rfl ?_|(refine c _ ?_;clear c K)|(refine zqf (fun d=>?_) (fun d=>?_)<;>(have a:=d;try simp only[z05]at a)<;>((first|have b:(_:Bool)=_:=a|have b:=eq_false a|have b:=eq_true a);simp(disch:=omega)only[go_sem,Z0,↓reduceIte,reduceCtorEq,Z2,Z1,d,b,z0l,g,Zx,Ze];clear d b;try omega)))
  all_goals first
   |exact z01 rfl
   |(refine z01 ?_;simp[*];done)
 |cons k l =>
  repeat'(first|((first|refine zqh fun K c=>?_|refine zqe (by decide+kernel) fun K c=>?_|refine zqt (f) ?_|refine zqt (h) ?_);simp(disch:=omega)only[go_sem,Z0,↓reduceIte,reduceCtorEq,Z2,Z1,Zg])|refine nxt ?_|refine zqU ?_|(refine c _ ?_;clear c K)|(refine zqf (fun d=>?_) (fun d=>?_)<;>(have a:=d;try simp only[z05]at a)<;>((first|have b:(_:Bool)=_:=a|have b:=eq_false a|have b:=eq_true a);simp(disch:=omega)only[go_sem,Z0,↓reduceIte,reduceCtorEq,Z2,Z1,d,b,z0l,g,zlb,Zq,Zg];clear d b;try omega)))
  all_goals first
   |exact z01 rfl
   |(refine z01 ?_;simp[*];done)
end
end
end Go.Proofs.YtppebcifiejplaaGreatDoor
