import Derived.Test.YtppebcifiejplaaGreatDoorWF
/-
 Lemmas of the claim. No condition but those that each names.
-/
set_option linter.unusedSimpArgs false
set_option linter.unusedVariables false
set_option maxHeartbeats 8000000
set_option maxRecDepth 100000
set_option linter.unusedSectionVars false
open Nat renaming reduceBEq->Z0,reduceLeDiff->Z1,reduceAdd->Z2,reduceEqDiff->Z4,le_refl->Zd,reduceLT->Zj,le_trans->Zx,lt_of_lt_of_le->ZE,mul_one->ZF,mul_le_mul_right->ZP,le_add_right->ZU,zero_le->Ya,min_def->Yb,add_sub_cancel_left->Yl,zero_add->Yo,min->Yw,lt_succ_self->Yy,min_eq_left->YB,reduceMul->YH,ne_of_lt->YL,add_mul->YM,le_succ->YO
open List renaming length_append->Z3,mem_cons->Z5,mem_map->Z6,mem_append->Z7,getElem_mem->Z8,mem_flatMap->Z9,mem_cons_of_mem->Za,take_succ_eq_append_getElem->Zb,map_cons->Zc,getElem?_eq_getElem->Ze,set_cons_succ->Zf,set_cons_zero->Zg,length_map->Zk,length_take->Zm,mem_singleton->Zn,map_append->Zo,length_drop->Zp,mem_of_mem_drop->Zq,mem_of_mem_take->Zr,length_cons->Zt,take_length->ZA,getElem_append_right->ZB,flatMap_append->ZC,flatMap_cons->ZH,replicate->ZI,size_toArray->ZJ,take_append_drop->ZK,getElem_map->ZM,flatMap_nil->ZN,eq_nil_of_length_eq_zero->ZO,map_congr_left->ZQ,getElem_of_mem->ZR,filter_append->ZS,drop_eq_getElem_cons->ZT,map_nil->ZV,length_nil->ZW,take_left'->ZX,mem_append_right->ZY,mem_append_left->ZZ,filter_eq_self->Y0,mem_cons_self->Y2,map_map->Y4,find?_append->Y6,append_assoc->Y7,take->Y9,nodup_cons->Yd,append_nil->Yf,getElem?_append_right->Yg,mem_of_find?_eq_some->Yh,getElem?_append_left->Yi,getElem?_eq_some_iff->Yj,getElem_append_left->Yk,take_of_length_le->Ym,getElem?_map->Ys,foldl_append->Yt,nodup_append->Yu,getElem_cons->Yv,mem_reverse->Yz,cons.injEq->YA,length_set->YC,mem_filter->YD,take_take->YE,takeWhile->YF,drop_drop->YG,map_take->YI,map_drop->YJ,flatMap->YK,length->YN,drop->YQ
open Int renaming natCast_add->Zh,natCast_one->Zi,natCast_zero->Zl,reduceEq->ZG,reduceLT->Y5
open Bool renaming and_self->Zs,false_and->Zw,true_and->Zy,and_eq_true->ZL,not_eq_true'->Y8,false_eq_true->Yr
open Array renaming getElem?_modify->Zu,length_toList->Zv,getElem?_push->ZD,getElem?_eq_none->Yn,getD->YP
open Option renaming some.injEq->Zz,toList_some->Y3,map_some->Yc,isSome_some->Yp,isSome_none->Yq,getD_some->Yx
open Prod renaming mk.injEq->Y1
open ByteArray renaming empty->Ye
open Go.Proofs.YtppebcifiejplaaGreatDoor.Abs.Le renaming refl->XV
namespace Go.Proofs.YtppebcifiejplaaGreatDoor
section
open _root_.Go.Proofs.Tryz
section
open Abs Facts Tr
attribute [local irreducible] awp
set_option maxRecDepth 100000
namespace Tr
theorem edit_sub{u:T}{id:Idv}{f:T->T}(b:(idsT u).Nodup)(a:id∈idsT u):z10 id (fun _=>f (z07 id u).1) u=z10 id f u:=zcz b (Prod.ext rfl (zea a))
theorem zs8{u:T}{id:Idv}(a:id∈idsT u):(z07 id u).1.id=id:=by
 obtain⟨_,_,e,_⟩:=focus id u a
 exact e
end Tr
set_option maxHeartbeats 32000000 in
theorem pc_DoA(u:T)(a2:standsT u=true)(G:szB u=true)(a:cntT u<=1100)(d:EIt)(hx:OkI d.it):PC prog 8 [z0o u,za4 d] (.tup [z0o (doA u d).1,.int .i64 (doA u d).2]):=by
 by_cases hk:d.it.kind=0 \/ d.it.kind=6
 ·have h:=pc_Do23 u a2 G a d hx hk;rwa [show doR u d=doA u d from by unfold doA;rw[if_pos hk]]at h
 have E:¬d.it.kind=0:=fun h=>hk (.inl h);have a4:¬d.it.kind=6:=fun h=>hk (.inr h);obtain⟨b,_⟩:=(zcd d.it).1 hx;have m1:1000<=maxLen:=by unfold maxLen;omega
 have c1:=zj6 d.it.kind;have c2:=znl d.it hx;have c3:=ztc u G a d.it.at_ (by have:=b.at_.1;omega) fun s hs=>by have:=b.at_.2 s hs;omega
 refine z14 3 (by simp only[pureD.pureL,z02,za5,Zs]) (by simp only[pureD,pureD.pureL,z02,Zs]) (zqzj [] func8 rfl (by decide+kernel) rfl ?_);rw[show Tryz.f8.results.toList=[.cell 4 27,.tmp 5] from rfl];obtain⟨R,g⟩:∃R,R=doA u d:=⟨_,rfl⟩
 rw[<-g];unfold doA at g;rw[if_neg hk]at g
 by_cases O:0<=d.it.kind/\d.it.kind<=6
 case neg =>
  rw[decide_eq_false O]at c1;rw[decide_eq_false O,Zw,if_pos rfl]at g;rw[g]
  repeat'(first|refine nxt ?_|((first|refine z09 (N:=3) rfl fun K c=>?_|refine zqs (c1) ?_);simp(disch:=omega)only[go_sem,Z0,↓reduceIte,reduceCtorEq,Z2,Z1])|(refine zqd _ rfl ?_ ?_<;>intro a<;>(first|(cases a;done)|((try omega))))|refine zqu (by(simp(disch:=omega)only[go_sem,Z0,↓reduceIte,Z1]);rfl) rfl ?_|(refine c _ ?_;clear c K))
  exact z06 (by simp only[pureD,pureD.pureL,z04,Zs]) (XV _)
 rw[decide_eq_true O]at c1;rw[decide_eq_true O,Zy]at g
 by_cases hm:zdx d.it=true
 case neg =>
  rw[Bool.not_eq_true]at hm;rw[if_pos hm]at g;rw[hm]at c2;rw[g]
  repeat'(first|refine nxt ?_|((first|refine z09 (N:=3) rfl fun K c=>?_|refine zqs (c1) ?_|refine zqs (c2) ?_);simp(disch:=omega)only[go_sem,Z0,↓reduceIte,reduceCtorEq,Z2,Z1])|(refine zqd _ rfl ?_ ?_<;>intro a<;>(first|(cases a;done)|((try omega))))|refine zqu (by(simp(disch:=omega)only[go_sem,Z0,↓reduceIte,Z1]);rfl) rfl ?_|(refine c _ ?_;clear c K))
  exact z06 (by simp only[pureD,pureD.pureL,z04,Zs]) (XV _)
 rw[if_neg (by rw[hm];decide)]at g;rw[hm]at c2
 by_cases h1:(z1e u d.it.at_).2=0
 case neg =>
  rw[if_pos h1]at g;have b7:decide ((z1e u d.it.at_).2=0)=false:=decide_eq_false h1;rw[g]
  repeat'(first|refine nxt ?_|((first|refine z09 (N:=6) rfl fun K c=>?_|refine zqs (c1) ?_|refine zqs (c2) ?_|refine zqs (c3) ?_);simp(disch:=omega)only[go_sem,Z0,↓reduceIte,reduceCtorEq,Z2,Z1,z0k])|(refine zqd _ rfl ?_ ?_<;>intro a<;>(first|(cases a;done)|((try simp only[z05]at a);try omega)))|refine zqu (by(simp(disch:=omega)only[go_sem,Z0,↓reduceIte,Z1]);rfl) rfl ?_|(refine c _ ?_;clear c K))
  exact z06 (by simp only[pureD,pureD.pureL,z04,Zs]) (XV _)
 rw[if_neg (by simpa using h1)]at g;have A:(z1e u d.it.at_).1∈idsT u:=zew (e:=(z1e u d.it.at_).2) rfl h1;rw[h1]at c3;generalize (z1e u d.it.at_).1=id at *
 by_cases h0:id=u.id
 ·rw[if_pos h0]at g;have a1:decide (id=u.id)=true:=decide_eq_true h0;rw[g]
  repeat'(first|refine nxt ?_|((first|refine z09 (N:=12) rfl fun K c=>?_|refine zqs (c1) ?_|refine zqs (c2) ?_|refine zqs (c3) ?_);simp(disch:=omega)only[go_sem,Z0,↓reduceIte,reduceCtorEq,Z2,Z1,z0k,E,a4,a1])|(refine zqd _ rfl ?_ ?_<;>intro a<;>(first|(cases a;done)|((try omega))))|refine zqu (by(simp(disch:=omega)only[go_sem,Z0,↓reduceIte,Z1]);rfl) rfl ?_|(refine c _ ?_;clear c K))
  exact z06 (by simp only[pureD,pureD.pureL,z04,Zs]) (XV _)
 rw[if_neg h0]at g;have a1:decide (id=u.id)=false:=decide_eq_false h0;have a0:¬u.id=id:=fun e=>h0 e.symm;obtain⟨_,s2,s3,s4,_⟩:=(z18 u).1 a2;have L:=zd2 id u G (by omega);have C:=ze3 id u G (by omega);obtain⟨q,l,x,r,e1,e2,e3,e4,e5,n1,n2,e6,_⟩:=zdw s4 a0 A;rw[zig s4 a0 A,e1]at C;simp only at C;have M:=zs8 A;have a3:(z07 q.id u).1.id=q.id:=zs8 e6;have b0:=z9g id u G;have a8:=z9g q.id u G;have a9:=zp4 s4 a0 A e1;obtain⟨X,hX⟩:∃X,X=(z07 id u).1:=⟨_,rfl⟩
 obtain⟨Q,hQ⟩:∃Q,Q=(z07 q.id u).1:=⟨_,rfl⟩
 rw[e1]at g;simp only at g;rw[<-hX]at g L M b0;rw[<-hQ]at g C a3 a8 a9;have hl:=((z1k Q).1 a8).2.2.2.2.2.1;have b3:l.length<Q.kids.length:=by
  rw[hQ,e4];show _<(l++x::r).length;simp
 have b4:=((z1k X).1 b0).2.2.2.1;have z:=z0n X;have b2:=z0n Q
 repeat'(first|refine nxt ?_|((first|refine z09 (N:=12) rfl fun K c=>?_|refine zqs (c1) ?_|refine zqs (c2) ?_|refine zqs (c3) ?_);simp(disch:=omega)only[go_sem,Z0,↓reduceIte,reduceCtorEq,Z2,Z1,z0k,E,a4,a1])|(refine zqd _ rfl ?_ ?_<;>intro a<;>(first|(cases a;done)|((try omega))))|(refine c _ ?_;clear c K))
 (refine z2a (fun J=>J.t 2=.ptr 0 0/\J.t 3=.ptr 1 0/\J.t 4=.ptr 2 0/\J.t 6=.ptr 3 0/\J.H 0=some (.box 27 (z08 u))/\J.H 1=some (.box 45 (z0w d))/\J.H 2=some (.box 27 zU)/\J.H 3=some (.box 23 (z0a id))/\J.nx=4) ?_ ?_);rotate_left;(rintro J ⟨W,Y,y,Z,m,o,i,p,v⟩);rotate_left
 ·(simp(disch:=omega)only[go_sem,Z0,and_self,zU,z0a])
 have F:∀f:T->T,z10 id (fun _=>f X) u=z10 id f u:=fun f=>by rw[hX];exact edit_sub s4 A
 have k:∀(t:T) (n:Int),pureD (.tup [z0o t,.int .i64 n])=true:=fun t n=>by simp only[pureD,pureD.pureL,z02,Zs]
 by_cases k1:d.it.kind=1
 ·rw[if_pos k1]at g;have P:=zw8 Q.kids hl l.length b3;have w:=z8o (zop l.length Q) u G;rw[show (zop l.length Q).id=q.id from a3,a9.2]at w;rw[show z0o (zop l.length Q)=.agg [.int .i64 Q.id.act,.int .i64 Q.id.item,.int .i64 Q.id.n,.int .i64 Q.kind,.str Q.label,z0f Q.head,z0f Q.words,z0l (Q.kids.eraseIdx l.length)] from by rw[z0o,z0n];rfl]at w;rw[g]
  repeat'(first|refine nxt ?_|((first|refine zqh fun K c=>?_|refine zqs (L) ?_|refine zqs (C) ?_|refine zqs (P) ?_|refine zqs (w) ?_);simp(disch:=omega)only[go_sem,Z0,↓reduceIte,reduceCtorEq,Z2,Z1,Zj,W,Y,y,Z,m,o,i,p,v,zU,z0a,k1,z0l,b2,Zf,Zg])|((refine zqm _ rfl (fun a=>?_) (fun a=>?_))<;>(first|(cases a;done)|((try omega))))|refine zqu (by(simp(disch:=omega)only[go_sem,Z0,↓reduceIte,Z1,y,i,zU]);rfl) rfl ?_|(refine c _ ?_;clear c K))
  exact z06 (k _ _) (XV _)
 rw[if_neg k1]at g
 by_cases B:d.it.kind=2 \/ d.it.kind=3
 ·rw[if_pos B]at g;have b5:X.words.length<=256:=by
   have a5:=z4r (zea A);rw[<-hX]at a5;have ha:=(z8y (zc9 u ((z18 u).1 a2).1 _ a5)).1;unfold z3l at ha;simp only[ZL]at ha;exact(zny ha.2.2.2.1).1
  have j:=zi7 hm;have a6:0<=d.it.nth/\d.it.nth<=256:=by
   unfold z5u at j;rcases B with I|k3
   ·rw[if_neg E,if_pos I]at j;simp only[ZL,inB,decide_eq_true_eq]at j;exact j.2.2
   ·rw[if_neg E,if_neg (by omega),if_pos k3]at j;simp only[ZL,inB,decide_eq_true_eq]at j;exact j.2.2.1
  have a7:d.it.kind=2->0<d.it.old.length:=fun I=>by
   unfold z5u at j;rw[if_neg E,if_pos I]at j;simp only[ZL,inB,decide_eq_true_eq]at j;exact j.1.2
  have c6:=pc_Edit23 X.words d.it d.act d.item (by omega) b.old.1 b.new.1 (by
   rcases B with I|k3
   ·exact .inl ⟨I,a7 I⟩
   ·exact .inr k3) a6.1 (by omega)
  by_cases U:editE X.words d.it d.act d.item=0
  ·rw[if_pos U]at g;rw[if_pos U,U]at c6;have w:=z8o (X.setWords (z60 X.words d.it d.act d.item)) u G;rw[show (X.setWords (z60 X.words d.it d.act d.item)).id=id from M,F fun q=>q.setWords (z60 X.words d.it d.act d.item)]at w;rw[show z0o (X.setWords (z60 X.words d.it d.act d.item))=.agg [.int .i64 X.id.act,.int .i64 X.id.item,.int .i64 X.id.n,.int .i64 X.kind,.str X.label,z0f X.head,z0f (z60 X.words d.it d.act d.item),z0l X.kids] from by rw[z0o,z0n];rfl]at w;rw[g];rcases B with I|k3
   ·skip
    repeat'(first|refine nxt ?_|((first|refine zqh fun K c=>?_|refine zqr fun K c=>?_|refine zqs (L) ?_|refine zqs (C) ?_|refine zqs (c6) ?_|refine zqs (w) ?_);simp(disch:=omega)only[go_sem,Z0,↓reduceIte,reduceCtorEq,Z2,Z1,ZG,W,Y,y,Z,m,o,i,p,v,zU,z0a,I,z0l,z,Zf,Zg])|((first|refine zqd _ rfl (fun a=>?_) (fun a=>?_)|refine zqm _ rfl (fun a=>?_) (fun a=>?_))<;>(first|(cases a;done)|((try omega))))|refine zqu (by(simp(disch:=omega)only[go_sem,Z0,↓reduceIte,Z1,y,i,zU]);rfl) rfl ?_|(refine c _ ?_;clear c K))
    exact z06 (k _ _) (XV _)
   ·skip
    repeat'(first|refine nxt ?_|((first|refine zqh fun K c=>?_|refine zqr fun K c=>?_|refine zqs (L) ?_|refine zqs (C) ?_|refine zqs (c6) ?_|refine zqs (w) ?_);simp(disch:=omega)only[go_sem,Z0,↓reduceIte,reduceCtorEq,Z2,Z1,ZG,W,Y,y,Z,m,o,i,p,v,zU,z0a,k3,z0l,z,Zf,Zg])|((first|refine zqd _ rfl (fun a=>?_) (fun a=>?_)|refine zqm _ rfl (fun a=>?_) (fun a=>?_))<;>(first|(cases a;done)|((try omega))))|refine zqu (by(simp(disch:=omega)only[go_sem,Z0,↓reduceIte,Z1,y,i,zU]);rfl) rfl ?_|(refine c _ ?_;clear c K))
    exact z06 (k _ _) (XV _)
  ·rw[if_neg U]at g;rw[if_neg U]at c6;have b6:decide (editE X.words d.it d.act d.item=0)=false:=decide_eq_false U;generalize editE X.words d.it d.act d.item=e at *;rw[g];rcases B with I|k3
   ·skip
    repeat'(first|refine nxt ?_|((first|refine zqh fun K c=>?_|refine zqs (L) ?_|refine zqs (C) ?_|refine zqs (c6) ?_);simp(disch:=omega)only[go_sem,Z0,↓reduceIte,reduceCtorEq,Z2,Z1,ZG,W,Y,y,Z,m,o,i,p,v,zU,z0a,I,U,z0l,z,Zf,Zg])|((first|refine zqd _ rfl (fun a=>?_) (fun a=>?_)|refine zqm _ rfl (fun a=>?_) (fun a=>?_))<;>(first|(cases a;done)|((try omega))))|refine zqu (by(simp(disch:=omega)only[go_sem,Z0,↓reduceIte,Z1,y,i,zU]);rfl) rfl ?_|(refine c _ ?_;clear c K))
    exact z06 (k _ _) (XV _)
   ·skip
    repeat'(first|refine nxt ?_|((first|refine zqh fun K c=>?_|refine zqs (L) ?_|refine zqs (C) ?_|refine zqs (c6) ?_);simp(disch:=omega)only[go_sem,Z0,↓reduceIte,reduceCtorEq,Z2,Z1,ZG,W,Y,y,Z,m,o,i,p,v,zU,z0a,k3,U,z0l,z,Zf,Zg])|((first|refine zqd _ rfl (fun a=>?_) (fun a=>?_)|refine zqm _ rfl (fun a=>?_) (fun a=>?_))<;>(first|(cases a;done)|((try omega))))|refine zqu (by(simp(disch:=omega)only[go_sem,Z0,↓reduceIte,Z1,y,i,zU]);rfl) rfl ?_|(refine c _ ?_;clear c K))
    exact z06 (k _ _) (XV _)
 rw[if_neg B]at g
 by_cases k4:d.it.kind=4
 ·rw[if_pos k4]at g;have P:=zfs d.it.new (by have:=b.new.1;omega) d.act d.item 0 (by omega);have w:=z8o (X.setHead (z1v d.it.new d.act d.item 0)) u G;rw[show (X.setHead (z1v d.it.new d.act d.item 0)).id=id from M,F fun q=>q.setHead (z1v d.it.new d.act d.item 0)]at w;rw[show z0o (X.setHead (z1v d.it.new d.act d.item 0))=.agg [.int .i64 X.id.act,.int .i64 X.id.item,.int .i64 X.id.n,.int .i64 X.kind,.str X.label,z0f (z1v d.it.new d.act d.item 0),z0f X.words,z0l X.kids] from by rw[z0o,z0n];rfl]at w;rw[g]
  repeat'(first|refine nxt ?_|((first|refine zqh fun K c=>?_|refine zqr fun K c=>?_|refine zqs (L) ?_|refine zqs (C) ?_|refine zqs (P) ?_|refine zqs (w) ?_);simp(disch:=omega)only[go_sem,Z0,↓reduceIte,reduceCtorEq,Z2,Z1,ZG,W,Y,y,Z,m,o,i,p,v,zU,z0a,k4,z0l,z,Zf,Zg])|((first|refine zqd _ rfl (fun a=>?_) (fun a=>?_)|refine zqm _ rfl (fun a=>?_) (fun a=>?_))<;>(first|(cases a;done)|((try omega))))|refine zqu (by(simp(disch:=omega)only[go_sem,Z0,↓reduceIte,Z1,y,i,zU]);rfl) rfl ?_|(refine c _ ?_;clear c K))
  exact z06 (k _ _) (XV _)
 rw[if_neg k4]at g;have k5:d.it.kind=5:=by omega
 have P:=zgd Q.kids hl X.kind d.it.label;have w:=z8o (X.setLabel d.it.label) u G;rw[show (X.setLabel d.it.label).id=id from M,F fun q=>q.setLabel d.it.label]at w;rw[show z0o (X.setLabel d.it.label)=.agg [.int .i64 X.id.act,.int .i64 X.id.item,.int .i64 X.id.n,.int .i64 X.kind,.str d.it.label,z0f X.head,z0f X.words,z0l X.kids] from by rw[z0o,z0n];rfl]at w;cases ht:z2u Q.kids X.kind d.it.label with
 |true =>
  rw[ht]at P g;rw[if_pos rfl]at g;rw[g]
  repeat'(first|refine nxt ?_|((first|refine zqh fun K c=>?_|refine zqs (L) ?_|refine zqs (C) ?_|refine zqs (P) ?_);simp(disch:=omega)only[go_sem,Z0,↓reduceIte,reduceCtorEq,Z2,Z1,ZG,W,Y,y,Z,m,o,i,p,v,zU,z0a,k5,z0l,z,Zf,Zg])|((first|refine zqd _ rfl (fun a=>?_) (fun a=>?_)|refine zqm _ rfl (fun a=>?_) (fun a=>?_))<;>(first|(cases a;done)|((try omega))))|refine zqu (by(simp(disch:=omega)only[go_sem,Z0,↓reduceIte,Z1,y,i,zU]);rfl) rfl ?_|(refine c _ ?_;clear c K))
  exact z06 (k _ _) (XV _)
 |false =>
  rw[ht]at P g;rw[if_neg (by decide)]at g;rw[g]
  repeat'(first|refine nxt ?_|((first|refine zqh fun K c=>?_|refine zqr fun K c=>?_|refine zqs (L) ?_|refine zqs (C) ?_|refine zqs (P) ?_|refine zqs (w) ?_);simp(disch:=omega)only[go_sem,Z0,↓reduceIte,reduceCtorEq,Z2,Z1,Zj,ZG,W,Y,y,Z,m,o,i,p,v,zU,z0a,k5,z0l,z,Zf,Zg])|((first|refine zqd _ rfl (fun a=>?_) (fun a=>?_)|refine zqm _ rfl (fun a=>?_) (fun a=>?_))<;>(first|(cases a;done)|((try omega))))|refine zqu (by(simp(disch:=omega)only[go_sem,Z0,↓reduceIte,Z1,y,i,zU]);rfl) rfl ?_|(refine c _ ?_;clear c K))
  exact z06 (k _ _) (XV _)
end
section
open Abs Facts Tr
attribute [local irreducible] awp
set_option maxRecDepth 100000
set_option maxHeartbeats 16000000 in
theorem pc_Few17:∀x:It,RdI x->PC prog 24 [zfp x] (.bool (zor x)):=by
  refine zuu fun x ih hx=>?_;obtain⟨⟨⟨a1,_⟩,⟨a2,_⟩,⟨a3,_⟩,⟨a4,_⟩,a5,a6,a7,a8,a9,Y⟩,hk⟩:=(zoi x).1 hx;have c1:=pc_Few x.unit a6 30 (by decide) (by decide);unfold maxLen at a1 a2 a3 a4 a5 a7 a8 a9 Y;refine z14 1 (by simp only[pureD.pureL,z5p,Zs]) rfl (zqzj [] func24 rfl (by decide+kernel) rfl ?_);have a0:fewN x=false->zor x=false:=fun h=>by rw[zv3,h,Zw]
  repeat'(first|refine nxt ?_|((first|refine z09 (N:=3) rfl fun K a=>?_|refine zqs (c1) ?_);simp(disch:=omega)only[go_sem,Z0,↓reduceIte,reduceCtorEq,Z2,z0k])|(refine zqd _ rfl ?_ ?_<;>intro b<;>(first|(cases b;done)|((try simp only[z05]at b);try omega)))|refine zqU ?_|(refine a _ ?_;clear a K)|(refine zqf (fun m=>?_) (fun m=>?_)<;>(have d:=m;try simp only[z05]at d)<;>((first|have e:=eq_false d|have e:=eq_true d);simp(disch:=omega)only[go_sem,Z0,↓reduceIte,reduceCtorEq,Z2,Z1,e,z0k,z1n,z5e];clear m e;try omega)))
  all_goals first
    |(refine z01 (a0 ?_).symm
      unfold fewN;simp only[Bool.and_eq_false_imp,decide_eq_true_eq]
      intros
      first|omega|assumption)
    |skip
  have hN:fewN x=true:=by
    unfold fewN;simp only[ZL,decide_eq_true_eq];exact⟨by omega,by omega,by omega,by omega,by omega,by omega,by omega,by omega,by omega,by assumption⟩
  rw[zv3,hN,Zy];(refine z2a (fun c=>c.t 1=.ptr 0 0/\c.H 0=some (.box 43 (z0t x))/\c.nx=1) ?_ ?_);rotate_left;(rintro c ⟨p1,b0,b2⟩);rotate_left
  · (simp(disch:=omega)only[go_sem,Z0,and_self])
  repeat'(first|((refine zqh fun K a=>?_);simp(disch:=omega)only[go_sem,b2])|refine nxt ?_|(refine a _ ?_;clear a K))
  (refine zqL (fun j c=>∃(k:_),j=x.old.length-k/\c.t 1=.ptr 0 0/\c.t 3=.int .i64 k/\c.H 0=some (.box 43 (z0t x))/\c.nx=1/\(k<=x.old.length)/\((x.old.take k).all (fun s=>decide (s.size<=100))=true)) ?_ ?_);rintro j c ⟨k,rfl,R,q3,o,G,b4,I⟩;rotate_left
  · (refine⟨_,0,rfl,?_⟩);simp(disch:=omega)only[go_sem,Z0,p1,b0,true_and,Zl]
    try simp
  by_cases u:k<x.old.length
  · repeat'(first|refine nxt ?_|((first|refine zqh fun K a=>?_|refine zqr fun K a=>?_);simp(disch:=omega)only[go_sem,Z0,↓reduceIte,reduceCtorEq,Z2,R,q3,o,G,z1n])|((first|refine zqd _ rfl (fun b=>?_) (fun b=>?_)|refine zqm _ rfl (fun b=>?_) (fun b=>?_))<;>(((try simp only[z05]at b);try omega)))|refine zqU ?_|(refine a _ ?_;clear a K))
    · refine z01 ?_;rw[show shS x.old=false from z5q (k:=k) u (decide_eq_false (by omega)),Zw]
    · (refine⟨_,?_,k+1,rfl,?_⟩);rotate_left;simp(disch:=omega)only[go_sem,Z0,R,q3,o,true_and,Zh,Zi];rotate_left
      · omega
      · exact⟨by omega,z3d u I (decide_eq_true (by omega))⟩
  rw[show shS x.old=true from z3p u I,Zy]
  repeat'(first|refine nxt ?_|((refine zqh fun K a=>?_);simp(disch:=omega)only[go_sem,Z0,↓reduceIte,reduceCtorEq,Z2,R,q3,o,G,z1n])|(refine zqd _ rfl ?_ ?_<;>intro b<;>(((try simp only[z05]at b);try omega)))|refine zqz ?_|(refine a _ ?_;clear a K))
  (refine zqL (fun j c=>∃(k:_),j=x.new.length-k/\c.t 1=.ptr 0 0/\c.t 4=.int .i64 k/\c.H 0=some (.box 43 (z0t x))/\c.nx=1/\(k<=x.new.length)/\((x.new.take k).all (fun s=>decide (s.size<=100))=true)) ?_ ?_);rintro j c ⟨k,rfl,U,r4,p,J,b5,L⟩;rotate_left
  · (refine⟨_,0,rfl,?_⟩);simp(disch:=omega)only[go_sem,Z0,R,o,true_and,Zl]
    try simp
  by_cases v:k<x.new.length
  · repeat'(first|refine nxt ?_|((first|refine zqh fun K a=>?_|refine zqr fun K a=>?_);simp(disch:=omega)only[go_sem,Z0,↓reduceIte,reduceCtorEq,Z2,U,r4,p,J,z1n])|((first|refine zqd _ rfl (fun b=>?_) (fun b=>?_)|refine zqm _ rfl (fun b=>?_) (fun b=>?_))<;>(((try simp only[z05]at b);try omega)))|refine zqU ?_|(refine a _ ?_;clear a K))
    · refine z01 ?_;rw[show shS x.new=false from z5q (k:=k) v (decide_eq_false (by omega)),Zw]
    · (refine⟨_,?_,k+1,rfl,?_⟩);rotate_left;simp(disch:=omega)only[go_sem,Z0,U,r4,p,true_and,Zh,Zi];rotate_left
      · omega
      · exact⟨by omega,z3d v L (decide_eq_true (by omega))⟩
  rw[show shS x.new=true from z3p v L,Zy]
  repeat'(first|refine nxt ?_|((refine zqh fun K a=>?_);simp(disch:=omega)only[go_sem,Z0,↓reduceIte,reduceCtorEq,Z2,U,r4,p,J,z1n])|(refine zqd _ rfl ?_ ?_<;>intro b<;>(((try simp only[z05]at b);try omega)))|refine zqz ?_|(refine a _ ?_;clear a K))
  (refine zqL (fun j c=>∃(k:_),j=x.at_.length-k/\c.t 1=.ptr 0 0/\c.t 5=.int .i64 k/\c.H 0=some (.box 43 (z0t x))/\c.nx=1/\(k<=x.at_.length)/\((x.at_.take k).all (fun s=>decide (s.label.size<=100))=true)) ?_ ?_);rintro j c ⟨k,rfl,W,u5,q,M,b6,O⟩;rotate_left
  · (refine⟨_,0,rfl,?_⟩);simp(disch:=omega)only[go_sem,Z0,U,p,true_and,Zl]
    try simp
  by_cases w:k<x.at_.length
  · repeat'(first|refine nxt ?_|((first|refine zqh fun K a=>?_|refine zqr fun K a=>?_);simp(disch:=omega)only[go_sem,Z0,↓reduceIte,reduceCtorEq,Z2,W,u5,q,M,z0k])|((first|refine zqd _ rfl (fun b=>?_) (fun b=>?_)|refine zqm _ rfl (fun b=>?_) (fun b=>?_))<;>(((try simp only[z05]at b);try omega)))|refine zqU ?_|(refine a _ ?_;clear a K))
    · refine z01 ?_;rw[show shP x.at_=false from z5q (k:=k) w (decide_eq_false (by omega)),Zw]
    · (refine⟨_,?_,k+1,rfl,?_⟩);rotate_left;simp(disch:=omega)only[go_sem,Z0,W,u5,q,true_and,Zh,Zi];rotate_left
      · omega
      · exact⟨by omega,z3d w O (decide_eq_true (by omega))⟩
  rw[show shP x.at_=true from z3p w O,Zy]
  repeat'(first|refine nxt ?_|((refine zqh fun K a=>?_);simp(disch:=omega)only[go_sem,Z0,↓reduceIte,reduceCtorEq,Z2,W,u5,q,M,z0k])|(refine zqd _ rfl ?_ ?_<;>intro b<;>(((try simp only[z05]at b);try omega)))|refine zqz ?_|(refine a _ ?_;clear a K))
  (refine zqL (fun j c=>∃(k:_),j=x.to.length-k/\c.t 1=.ptr 0 0/\c.t 6=.int .i64 k/\c.H 0=some (.box 43 (z0t x))/\c.nx=1/\(k<=x.to.length)/\((x.to.take k).all (fun s=>decide (s.label.size<=100))=true)) ?_ ?_);rintro j c ⟨k,rfl,X,v6,r,P,b7,Q⟩;rotate_left
  · (refine⟨_,0,rfl,?_⟩);simp(disch:=omega)only[go_sem,Z0,W,q,true_and,Zl]
    try simp
  by_cases A:k<x.to.length
  · repeat'(first|refine nxt ?_|((first|refine zqh fun K a=>?_|refine zqr fun K a=>?_);simp(disch:=omega)only[go_sem,Z0,↓reduceIte,reduceCtorEq,Z2,X,v6,r,P,z0k])|((first|refine zqd _ rfl (fun b=>?_) (fun b=>?_)|refine zqm _ rfl (fun b=>?_) (fun b=>?_))<;>(((try simp only[z05]at b);try omega)))|refine zqU ?_|(refine a _ ?_;clear a K))
    · refine z01 ?_;rw[show shP x.to=false from z5q (k:=k) A (decide_eq_false (by omega)),Zw]
    · (refine⟨_,?_,k+1,rfl,?_⟩);rotate_left;simp(disch:=omega)only[go_sem,Z0,X,v6,r,true_and,Zh,Zi];rotate_left
      · omega
      · exact⟨by omega,z3d A Q (decide_eq_true (by omega))⟩
  rw[show shP x.to=true from z3p A Q,Zy]
  repeat'(first|refine nxt ?_|((refine zqh fun K a=>?_);simp(disch:=omega)only[go_sem,Z0,↓reduceIte,reduceCtorEq,Z2,X,v6,r,P,z0k])|(refine zqd _ rfl ?_ ?_<;>intro b<;>(((try simp only[z05]at b);try omega)))|refine zqz ?_|(refine a _ ?_;clear a K))
  (refine zqL (fun j c=>∃(k:_),j=x.by_.length-k/\c.t 1=.ptr 0 0/\c.t 7=.int .i64 k/\c.H 0=some (.box 43 (z0t x))/\c.nx=1/\(k<=x.by_.length)/\((x.by_.take k).all (fun y => !zv2 y&&zor y)=true)) ?_ ?_);rintro j c ⟨k,rfl,B,C,i,E,b8,F⟩;rotate_left
  · (refine⟨_,0,rfl,?_⟩);simp(disch:=omega)only[go_sem,Z0,X,r,true_and,Zl]
    try simp
  by_cases f:k<x.by_.length
  · have c2:=ih x.by_[k] (Z8 f) (hk _ (Z8 f));obtain⟨d0,Z⟩:=(zoi _).1 (hk _ (Z8 f));have d5:=d0.by_;unfold maxLen at d5;have hz:Int.toNat 0=0:=rfl;cases g:(x.by_[k]).by_ with
    |nil =>
      have n:zv2 x.by_[k]=false:=by unfold zv2;rw[g];rfl
      repeat'(first|refine nxt ?_|((first|refine zqh fun K a=>?_|refine zqr fun K a=>?_|refine zqs (c2) ?_);simp(disch:=omega)only[go_sem,Z0,↓reduceIte,reduceCtorEq,Z2,B,C,i,E,z5e,g,ZW,ZV])|((first|refine zqd _ rfl (fun b=>?_) (fun b=>?_)|refine zqm _ rfl (fun b=>?_) (fun b=>?_))<;>(((try simp only[z05]at b);try omega)))|refine zqU ?_|(refine a _ ?_;clear a K)|(refine zqf (fun m=>?_) (fun m=>?_)<;>(have d:=m;try simp only[z05]at d)<;>((first|have e:=eq_false d|have e:=eq_true d);simp(disch:=omega)only[go_sem,Z0,↓reduceIte,reduceCtorEq,Z2,e,B,C,i,z5e,g,ZV];clear m e;try omega)))
      · exact z01 (z5q (k:=k) f (by rw[n,‹zor x.by_[k]=false›];rfl)).symm
      · (refine⟨_,?_,k+1,rfl,?_⟩);rotate_left;simp(disch:=omega)only[go_sem,Z0,B,C,i,true_and,Zh,Zi,Zl];rotate_left
        · omega
        · exact⟨by omega,z3d f F (by rw[n,‹zor x.by_[k]=true›];rfl)⟩
    |cons z l =>
      have n:zv2 x.by_[k]=decide (0<z.by_.length):=by unfold zv2;rw[g];simp
      have b3:z.by_.length<=9223372036854775807:=by
        have:=(zoi _).1 (Z z (by rw[g];simp));exact this.1.by_
      rw[g,Zt]at d5
      repeat'(first|refine nxt ?_|((first|refine zqh fun K a=>?_|refine zqr fun K a=>?_|refine zqs (c2) ?_);simp(disch:=omega)only[go_sem,Z0,↓reduceIte,reduceCtorEq,Z2,B,C,i,E,z5e,g,Zt,Zc])|((first|refine zqd _ rfl (fun b=>?_) (fun b=>?_)|refine zqm _ rfl (fun b=>?_) (fun b=>?_))<;>(first|(cases b;done)|((try simp only[z05]at b);try omega)))|refine zqU ?_|(refine a _ ?_;clear a K)|(refine zqf (fun m=>?_) (fun m=>?_)<;>(have d:=m;try simp only[z05]at d)<;>((first|have e:=eq_false d|have e:=eq_true d);simp(disch:=omega)only[go_sem,Z0,↓reduceIte,reduceCtorEq,Z2,e,B,C,i,z5e,g,zlb,Zc];clear m e;try omega)))
      all_goals first
        |exact z01 (z5q (k:=k) f (by rw[n,decide_eq_true (by omega)];rfl)).symm
        |exact z01 (z5q (k:=k) f (by rw[‹zor x.by_[k]=false›,Bool.and_false])).symm
        |skip
      all_goals
        (refine⟨_,?_,k+1,rfl,?_⟩);rotate_left;simp(disch:=omega)only[go_sem,Z0,B,C,i,true_and,Zh,Zi];rotate_left
        · omega
        · exact⟨by omega,z3d f F (by rw[n,decide_eq_false (by omega),‹zor x.by_[k]=true›];rfl)⟩
  · repeat'(first|refine nxt ?_|((refine zqh fun K a=>?_);simp(disch:=omega)only[go_sem,Z0,↓reduceIte,reduceCtorEq,Z2,B,C,i,E,z5e])|(refine zqd _ rfl ?_ ?_<;>intro b<;>(((try simp only[z05]at b);try omega)))|refine zqz ?_|refine zqU ?_|(refine a _ ?_;clear a K))
    exact z01 (z3p f F).symm
end
section
open Abs Facts Tr
attribute [local irreducible] awp
set_option maxRecDepth 100000
structure WordOK (w:List Wd) (x:It) (a j:Int):Prop where
 len:w.length<=256
 old:x.old.length<=1000
 new:x.new.length<=1000
 n0:0<=x.nth
 n1:x.nth<=256
 e:editE w x a j=0
theorem WordOK.lo{w:List Wd}{x:It}{a j:Int}(h:WordOK w x a j)(i:0<x.old.length):¬(z8m (txt w) x.old 0).length=0/\¬((z8m (txt w) x.old 0).length:Int)<x.nth/\(z60 w x a j).length<=256 /\
  z60 w x a j=if x.kind=3 then z49 w 0 x.new a j ((z8n x.nth (z8m (txt w) x.old 0)).map (· + x.old.length)) 0 0 else z49 w x.old.length x.new a j (z8n x.nth (z8m (txt w) x.old 0)) 0 0:=by
 have b:=h.e;unfold editE at b;rw[if_neg (fun g=>by omega)]at b;split at b
 ·cases b
 rename_i c;split at b
 ·cases b
 rename_i n;rw[not_or]at c;have f:(txt w).length=w.length:=zgh w;obtain⟨l,m,o⟩:=zpy (w:=txt w) (row:=x.old) i (txt w).length 0 (by omega);refine⟨c.1,c.2,by omega,?_⟩;unfold z60;rw[if_neg (fun g=>by omega),ref_fill h.n0 c.2 (fun p k=>by rw[<-f];exact(l p k).2) m]
 by_cases d:x.kind=3
 ·rw[if_pos (decide_eq_true d),if_pos d]
 ·rw[if_neg (by simpa using d),if_neg d]
theorem pc_Word2{w:List Wd}{x:It}{a j:Int}(h:WordOK w x a j)(g:x.kind=2)(b:0<x.old.length):PC prog 49 [z0f w,z1n x.old,z1n x.new,.int .i64 x.nth,.int .i64 a,.int .i64 j] (.tup [z0f (z60 w x a j),.int .i64 0]):=by
 obtain⟨e,f,c,d⟩:=h.lo b;have k:=h.len;have i:=h.n1;rw[if_neg (by omega)]at d;rw[d]at c⊢;exact zum (by omega) b h.old h.new h.n0 (by omega) e f c
theorem pc_Word3{w:List Wd}{x:It}{a j:Int}(h:WordOK w x a j)(f:x.kind=3)(b:¬x.new.length=0)(m:x.old.length=0->x.nth=0):PC prog 51 [z0f w,z1n x.old,z1n x.new,.int .i64 x.nth,.int .i64 a,.int .i64 j] (.tup [z0f (z60 w x a j),.int .i64 0]):=by
 have q:=h.len;have p:=h.n1
 by_cases d:x.old.length=0
 ·have l:z60 w x a j=z49 w 0 x.new a j [0] 0 0:=by
   unfold z60;rw[if_pos ⟨f,d⟩];simp only[z49,List.take_zero,List.drop_zero,List.nil_append,Nat.zero_mul,Nat.add_zero]
  have g:(z60 w x a j).length<=256:=by
   have c:=h.e;unfold editE at c;rw[if_pos ⟨f,d⟩]at c;split at c
   ·cases c
   ·omega
  rw[l]at g⊢;rw[m d,ZO d];exact zkf (by omega) b h.new g
 ·obtain⟨n,o,i,k⟩:=h.lo (by omega);rw[if_pos f]at k;rw[k]at i⊢;exact zke (by omega) (by omega) h.old b h.new h.n0 (by omega) n o i
def z63(l:List EIt):D:=.rsl false 28 (l.map za4)
theorem zjt(l:List EIt):pureD (z63 l)=true:=z0x (f:=za4) za5 l
noncomputable def zai(d:EIt):Bool:=decide (0<=d.it.kind/\d.it.kind<=6)&&zdx d.it
theorem zu3(d:EIt)(f:OkI d.it):PC prog 25 [za4 d] (.bool (zai d)):=by
 have b:=zj6 d.it.kind;have e:=znl d.it f;refine z14 1 (by simp only[pureD.pureL,za5,Zs]) rfl (zqzj [] func25 rfl (by decide+kernel) rfl ?_);unfold zai
 by_cases c:0<=d.it.kind/\d.it.kind<=6
 ·rw[decide_eq_true c]at b⊢;rw[Zy]
  repeat'(first|((first|refine zqh fun K a=>?_|refine zqs (b) ?_|refine zqs (e) ?_);simp(disch:=omega)only[go_sem,Z0,↓reduceIte,reduceCtorEq,Z2,Z1])|refine nxt ?_|refine zqU ?_|(refine a _ ?_;clear a K))
  exact z01 rfl
 ·rw[decide_eq_false c]at b⊢;rw[Zw]
  repeat'(first|((first|refine zqh fun K a=>?_|refine zqs (b) ?_);simp(disch:=omega)only[go_sem,Z0,↓reduceIte,reduceCtorEq,Z2])|refine nxt ?_|refine zqU ?_|(refine a _ ?_;clear a K))
  exact z01 rfl
noncomputable def rowI(l:List EIt)(most:Int):Bool:=decide ((l.length:Int)<=most)&&l.all fun d=>zor d.it&&zai d
theorem pc_rowTop(l:List EIt)(v:l.length<=maxLen)(w:∀d∈l,RdI d.it)(most:Int)(y:0<=most)(z:most<=1000):PC prog 6 [z63 l,.int .i64 most] (.bool (rowI l most)):=by
 unfold maxLen at v;refine z14 1 (by simp only[pureD.pureL,zjt,pureD,Zs]) rfl (zqzj [] func6 rfl (by decide+kernel) rfl ?_);unfold rowI
 by_cases s:(l.length:Int)<=most
 case neg =>
  rw[decide_eq_false s,Zw]
  repeat'(first|refine nxt ?_|((refine zqh fun K b=>?_);simp(disch:=omega)only[go_sem,Z0,↓reduceIte,z63])|(refine zqd _ rfl ?_ ?_<;>intro a<;>(((try simp only[z05]at a);try omega)))|refine zqU ?_|(refine b _ ?_;clear b K))
  exact z01 rfl
 rw[decide_eq_true s,Zy]
 repeat'(first|refine nxt ?_|((refine zqh fun K b=>?_);simp(disch:=omega)only[go_sem,Z0,↓reduceIte,z63])|(refine zqd _ rfl ?_ ?_<;>intro a<;>(((try simp only[z05]at a);try omega)))|(refine b _ ?_;clear b K))
 (refine zqL (fun u r=>∃(i:_),u=l.length-i/\r.t 0=z63 l/\r.t 5=.int .i64 i/\(i<=l.length)/\((l.take i).all (fun d=>zor d.it&&zai d)=true)) ?_ ?_);rintro u r ⟨i,rfl,m,n,x,e⟩;rotate_left
 ·(refine⟨_,0,rfl,?_⟩);simp(disch:=omega)only[go_sem,Z0,true_and,Zl,z63]
  try rfl
 by_cases p:i<l.length
 ·have A:=(show (l.map za4)[i]?=some (za4 l[i]) from by rw[Ys,Ze p];rfl)
  have q:=Zb p;have g:=pc_Few17 l[i].it (w _ (Z8 p));have j:(l.take (i+1)).all (fun d=>zor d.it&&zai d)=(zor l[i].it&&zai l[i]):=by rw[q,List.all_append,e];simp
  have k:(zor l[i].it&&zai l[i])=false->l.all (fun d=>zor d.it&&zai d)=false:=fun h=>by
   rw[List.all_eq_false];exact⟨l[i],Z8 p,by rw[h];simp⟩
  cases f:zor l[i].it with
  |false =>
   rw[f]at g;rw[k (by rw[f];rfl)]
   repeat'(first|refine nxt ?_|((first|refine zqh fun K b=>?_|refine zqs (g) ?_);simp(disch:=omega)only[go_sem,Z0,↓reduceIte,reduceCtorEq,Z2,Z1,m,n,z63])|((first|refine zqd _ rfl (fun a=>?_) (fun a=>?_)|refine zqm _ rfl (fun a=>?_) (fun a=>?_))<;>(first|(cases a;done)|((try simp only[z05]at a);try omega)))|refine zqU ?_|(refine b _ ?_;clear b K))
   exact z01 rfl
  |true =>
   rw[f]at g;have o:=zu3 l[i] (few_ok _ f);cases c:zai l[i]with
   |false =>
    rw[c]at o;rw[k (by rw[f,c];rfl)]
    repeat'(first|refine nxt ?_|((first|refine zqh fun K b=>?_|refine zqs (g) ?_|refine zqs (o) ?_);simp(disch:=omega)only[go_sem,Z0,↓reduceIte,reduceCtorEq,Z2,Z1,m,n,z63])|((first|refine zqd _ rfl (fun a=>?_) (fun a=>?_)|refine zqm _ rfl (fun a=>?_) (fun a=>?_))<;>(first|(cases a;done)|((try simp only[z05]at a);try omega)))|refine zqU ?_|(refine b _ ?_;clear b K))
    exact z01 rfl
   |true =>
    rw[c]at o
    repeat'(first|refine nxt ?_|((first|refine zqh fun K b=>?_|refine zqr fun K b=>?_|refine zqs (g) ?_|refine zqs (o) ?_);simp(disch:=omega)only[go_sem,Z0,↓reduceIte,reduceCtorEq,Z2,Z1,m,n,z63])|((first|refine zqd _ rfl (fun a=>?_) (fun a=>?_)|refine zqm _ rfl (fun a=>?_) (fun a=>?_))<;>(first|(cases a;done)|((try simp only[z05]at a);try omega)))|(refine b _ ?_;clear b K))
    (refine⟨_,?_,i+1,rfl,?_⟩);rotate_left;simp(disch:=omega)only[go_sem,Z0,m,n,true_and,Zh,Zi,z63];rotate_left
    ·omega
    ·exact⟨by omega,by rw[j,f,c];rfl⟩
 ·rw[Ym (by omega)]at e;rw[e]
  repeat'(first|refine nxt ?_|((refine zqh fun K b=>?_);simp(disch:=omega)only[go_sem,Z0,↓reduceIte,m,n,z63])|(refine zqd _ rfl ?_ ?_<;>intro a<;>(((try simp only[z05]at a);try omega)))|refine zqz ?_|refine zqU ?_|(refine b _ ?_;clear b K))
  exact z01 rfl
end
end
namespace Glue
open Go.ChangeShapes Go.WideShapes Go.ChangeAt Go.RowKit Abs Facts Tr
set_option maxRecDepth 100000
def SP:List TypeId:=[4,3,9,38,23,120,122,24,27,25,109,37,40,43,41,45,28]
theorem closedSP:zjs Tryz.prog SP=true:=by decide+kernel
section
variable {H:Type}{enc:TypeId×Value->H}{W:World}{base:Nat}{r:Reach}{b0:Nat}{spare:Nat->Bool}{held:Bool}{v:Value}{d:DataW H}{p:List MemPlace}
theorem rd_eits(t:Value.okWide Tryz.prog W r b0 28 v)(h:DataW.Trod enc Tryz.prog W base spare held 28 v d p):∃l:List EIt,(l.length<=maxLen/\∀x∈l,RdI x.it)/\rel (z9h W) (z63 l) v:=by
 obtain⟨a,n,c,rfl⟩:=okWide_slice Tryz.underlying28 t;obtain⟨m,j,s,i⟩:=one_arg closedSP (by decide) isAggT28 rfl h;obtain⟨m,b,rfl,k,e,g⟩:=z73 Tryz.underlying28 s;obtain⟨l,rfl,o⟩:=z4d (f:=z0w) (q:=fun x:EIt=>RdI x.it) (fun p e=>typed_eit e) b e;refine⟨l,⟨by simpa using k,o⟩,?_⟩;have:j=z63 l:=by
  simp only[YA,and_true]at g;rw[g,isAggT45,sizeT45,Y4];rfl
 rw[this]at i;exact i
end
end Glue
section
section
open Abs Facts Tr
namespace Tr
inductive V where
 |mk (num:Nat) (row:Option Nat) (own:T) (kids:List V)
namespace V
def num:V->Nat | .mk n _ _ _=>n
def row:V->Option Nat | .mk _ r _ _=>r
def own:V->T | .mk _ _ o _=>o
def kids:V->List V | .mk _ _ _ a=>a
end V
theorem V.eta(v:V):V.mk v.num v.row v.own v.kids=v:=by cases v;rfl
mutual
theorem zgg{p:V->Prop}(h:∀v,(∀k∈v.kids,p k)->p v):∀v,p v
 | .mk a b c d=>h (.mk a b c d) (ind2V h d)
theorem ind2V{p:V->Prop}(h:∀v,(∀k∈v.kids,p k)->p v):∀(ks:List V),∀k∈ks,p k
 |[],k,hk=>by cases hk
 |t::a,k,hk=>by
  rcases Z5.1 hk with e|hk
  ·rw[e];exact zgg h t
  ·exact ind2V h a k hk
end
mutual
def recV{β:Type}(f:V->List β->β):V->β
 | .mk a b c d=>f (.mk a b c d) (recVL f d)
def recVL{β:Type}(f:V->List β->β):List V->List β
 |[]=>[]
 |t::a=>recV f t::recVL f a
end
theorem zwg{β:Type}(f:V->List β->β):∀a,recVL f a=a.map (recV f)
 |[]=>rfl
 |t::b=>by simp[recVL,zwg f b]
theorem zjq{β:Type}(f:V->List β->β)(v:V):recV f v=f v (v.kids.map (recV f)):=by
 cases v;rw[recV,zwg];rfl
def treeV(v:V):T:=recV (fun v l=>v.own.setKids l) v
theorem z3e(v:V):treeV v=v.own.setKids (v.kids.map treeV):=by unfold treeV;rw[zjq]
def nodesV(v:V):List V:=recV (fun v l=>v::l.flatten) v
theorem z41(v:V):nodesV v=v::v.kids.flatMap nodesV:=by
 unfold nodesV;rw[zjq,YK]
theorem z5b(v:V):v∈nodesV v:=by rw[z41];exact Y2
theorem z36{v k x:V}(a:k∈v.kids)(b:x∈nodesV k):x∈nodesV v:=by
 rw[z41];exact Za _ (Z9.2 ⟨k,a,b⟩)
theorem z37(v:V):(treeV v).id=v.own.id:=by rw[z3e];rfl
theorem z72:∀v:V,z0c (treeV v)=(nodesV v).map treeV:=by
 refine zgg fun v a=>?_;rw[z1l,z41,Zc,z3e];show _::(v.kids.map treeV).flatMap z0c=_
 congr 1
 generalize v.kids=l at a
 induction l with
 |nil=>rfl
 |cons k l b =>
  simp only[Zc,ZH,Zo];rw[a k (by simp),b fun k c=>a k (Za _ c)]
theorem z81(v:V):idsT (treeV v)=(nodesV v).map fun w=>w.own.id:=by
 unfold idsT;rw[z72,Y4];exact ZQ fun w _=>z37 w
theorem cnt_tree(v:V):cntT (treeV v)=(nodesV v).length:=by unfold cntT;rw[z72,Zk]
end Tr
namespace Abs
def kdD(v:V):D:=match v.row with
 |none=>.nil
 |some r=>.osl r v.kids.length
def z5c(v:V):List D:=[.int .i64 v.own.id.act,.int .i64 v.own.id.item,.int .i64 v.own.id.n,.int .i64 v.own.kind,.str v.own.label,z0f v.own.head,z0f v.own.words,.nil,kdD v]
def zns(H:HM)(v:V):Prop:=match v.row with
 |none=>v.kids=[]
 |some r=>H r=some (.row 70 v.kids.length (v.kids.map fun k=>.ptr k.num 0))
def Stand(H:HM)(v:V):Prop:=recV (fun v (l:List Prop)=>H v.num=some (.box 117 (z5c v))/\zns H v/\∀p∈l,p) v
theorem z34(H:HM)(v:V):Stand H v ↔ H v.num=some (.box 117 (z5c v))/\zns H v/\∀k∈v.kids,Stand H k:=by
 unfold Stand;rw[zjq];refine⟨fun⟨a,h2,h3⟩=>⟨a,h2,fun k b=>h3 _ (Z6.2 ⟨k,b,rfl⟩)⟩,fun⟨a,h2,h3⟩=>⟨a,h2,fun p c=>?_⟩⟩;obtain⟨k,b,rfl⟩:=Z6.1 c;exact h3 k b
def objsV(v:V):List Nat:=recV (fun v l=>v.num::(v.row.toList++l.flatten)) v
theorem z9b(v:V):objsV v=v.num::(v.row.toList++v.kids.flatMap objsV):=by
 unfold objsV;rw[zjq,YK]
theorem z5m(v:V):v.num∈objsV v:=by rw[z9b];exact Y2
theorem zwh{v:V}{r:Nat}(h:v.row=some r):r∈objsV v:=by
 rw[z9b,h];exact Za _ (ZZ _ (by simp))
theorem znt{v k:V}(a:k∈v.kids){i:Nat}(hi:i∈objsV k):i∈objsV v:=by
 rw[z9b];exact Za _ (ZY _ (Z9.2 ⟨k,a,hi⟩))
theorem zr7:∀v:V,∀w∈nodesV v,∀i∈objsV w,i∈objsV v:=by
 refine zgg fun v c w hw i a=>?_;rw[z41,Z5]at hw;rcases hw with rfl|hw
 ·exact a
 ·obtain⟨k,b,hw⟩:=Z9.1 hw;exact znt b (c k b w hw i a)
def Under(n:Nat)(v:V):Prop:=∀i∈objsV v,i<n
def Agree(n:Nat)(H a:HM):Prop:=∀id,id<n->a id=H id
theorem Agree.refl(n:Nat)(H:HM):Agree n H H:=fun _ _=>rfl
theorem Agree.trans{n m:Nat}{H c a:HM}(h:Agree n H c)(e:n<=m)(d:Agree m c a):Agree n H a:=fun id b=>(d id (by omega)).trans (h id b)
theorem Agree.upd{n i:Nat}{H:HM}{o:Option HObj}(hi:n<=i):Agree n H (z0m H i o):=fun id a=>by
 unfold z0m;rw[if_neg (by omega)]
theorem Stand.on{H b:HM}:∀v:V,(∀i∈objsV v,b i=H i)->Stand H v->Stand b v:=by
 refine zgg fun v h c g=>?_;obtain⟨j,a,l⟩:=(z34 H v).1 g;refine(z34 b v).2 ⟨by rw[c _ (z5m v)];exact j,?_,fun k d=>h k d (fun i f=>c i (znt d f)) (l k d)⟩;unfold zns at a⊢;cases e:v.row with
 |none=>rw[e]at a;exact a
 |some r =>
  rw[e]at a;simp only at a⊢;rw[c _ (zwh e)];exact a
theorem Stand.agree{n:Nat}{H a:HM}(b:Agree n H a)(v:V)(e:Under n v)(d:Stand H v):Stand a v:=Stand.on v (fun i c=>b i (e i c)) d
theorem Under.le{n m:Nat}(h:n<=m){v:V}(b:Under n v):Under m v:=fun i a=>ZE (b i a) h
theorem z5d{n:Nat}{v k:V}(c:Under n v)(b:k∈v.kids):Under n k:=fun i a=>c i (znt b a)
theorem zd4{H:HM}:∀v:V,Stand H v->∀w∈nodesV v,Stand H w:=by
 refine zgg fun v c b w hw=>?_;rw[z41,Z5]at hw;rcases hw with rfl|hw
 ·exact b
 ·obtain⟨k,a,hw⟩:=Z9.1 hw;exact c k a (((z34 H v).1 b).2.2 k a) w hw
theorem z4w{n:Nat}{v:V}(b:Under n v){w:V}(c:w∈nodesV v):Under n w:=fun i a=>b i (zr7 v w c i a)
theorem RC_low{P:Program}{f:FuncId}{ds:List D}{H:HM}{nx:Nat}{r:D}(p:lowD nx r=true)
  (h:AC P f ds H nx fun l b _=>l=r/\∀id,id<nx->b id=H id):RC P f ds H nx r:=by
 have k:=ztn h (fun l b d ⟨a,hk⟩=>by
  subst a
  exact⟨p,fun id o c n=>.inl (by rw[<-hk id c];exact n)⟩)
 refine⟨k.1,fun s w q g i j m=>(k.2 s w q g i j m).mono fun e t ⟨v,r1,s1,he,⟨hnx,b,d,⟨a,hk⟩,hcut⟩,hstep,hRH,hrel⟩=>⟨v,r1,s1,he,⟨a,?_,hnx⟩,hstep,hRH,hrel⟩⟩;subst g;subst i;rw[hcut];exact znj j hk
theorem z4p{P:Program}{own:List Nat}{n:FuncId}{args cap:List D}{g:List Oper->(St->Prop)->St->Prop}{b:List Oper}{K:St->Prop}{st:St}{a:Option Nat}{r:D}{H:HM}{nx:Nat}
  (h:AC P n (args++cap) st.H st.nx fun m d c=>m=r/\d=H/\c=nx) (e:z0s 5000000 own a=false) (j:z0s 4000000 own a=true) (f:z0s 10000000 own a=true) (k:zfa st H nx) (i:g b K ((st.withH H nx).put a r)) (l:tcM own a=none:=by rfl):zrx P own (.fn n cap) args g b K st a :=
 .inr (.inr ⟨e,j,r,H,nx,h,.inl ⟨l,.inr ⟨f,k⟩⟩,i⟩)
theorem znu{H:HM}{i:Nat}(hi:∃e a,H i=some (.box e a)){f:Nat->D}:∀l:List Nat,(∀j∈l,∃e a,H j=some (.box e a))->i∉l->zch H (.ptr i 0) (l.map fun j=>(.ptr j 0,f j))=some none
 |[],_,_=>rfl
 |j::l,d,g=>by
  obtain⟨e,a,c⟩:=hi;obtain⟨p,k,m⟩:=d j (by simp);have b:¬i=j:=fun e=>g (by simp[e]);have o:=znu (f:=f) ⟨e,a,c⟩ l (fun j n=>d j (Za _ n)) fun h=>g (Za _ h);simp only[Zc,zch,zli,c,m,decide_eq_false b,o,Yc,Option.map_none]
theorem zjr{H:HM}{i:Nat}(hi:∃e b,H i=some (.box e b)){x:D}:∀l:List Nat,(∀j∈l,∃e b,H j=some (.box e b))->i∈l->∃p,p<l.length/\zch H (.ptr i 0) (l.map fun j=>(.ptr j 0,x))=some (some (p,x))
 |[],_,d=>by cases d
 |j::l,g,d=>by
  obtain⟨e,b,c⟩:=hi;obtain⟨q,k,f⟩:=g j (by simp)
  by_cases a:i=j
  ·refine⟨0,by simp,?_⟩;simp only[Zc,zch,zli,c,f,decide_eq_true a]
  ·obtain⟨p,n,o⟩:=zjr (x:=x) ⟨e,b,c⟩ l (fun j m=>g j (Za _ m)) (by
    rcases Z5.1 d with h|h
    ·exact(a h).elim
    ·exact h)
   refine⟨p+1,by simpa using n,?_⟩;simp only[Zc,zch,zli,c,f,decide_eq_false a,o,Yc]
end Abs
namespace Tr
structure Nd where
 id:Idv
 by_:Int
structure Vn where
 u:T
 l:List Nd
def newV(v old:V):Nat:=(nodesV v).countP fun w => !decide (w.num∈(nodesV old).map V.num)
structure Fits (b:Nat->Int) (v:V) (x:Vn):Prop where
 u:treeV v=x.u
 l:x.l=(nodesV v).map fun w=>⟨w.own.id,b w.num⟩
 nd:((nodesV v).map fun w=>w.own.id).Nodup
 pos:∀w∈nodesV v,0<=b w.num
structure Apart (b:Nat->Int) (S:List V):Prop where
 key:∀v∈S,∀w∈S,∀x∈nodesV v,∀y∈nodesV w,x.own.id=y.own.id->b x.num=b y.num->x.num=y.num
 same:∀v∈S,∀w∈S,∀x∈nodesV v,∀y∈nodesV w,x.num=y.num->x.own.id=y.own.id
def Upd(lo:Nat)(b:List Idv)(v v':V):Prop :=
 ∀a∈nodesV v',(a.num<lo/\a∈nodesV v/\a.own.id∉b) \/ (lo<=a.num/\(a.own.id∈b \/ a.own.id∉idsT (treeV v)))
theorem zbv{α β:Type}{f:α->β}:∀ {l:List α},(l.map f).Nodup->∀a∈l,∀c∈l,f a=f c->a=c
 |[],_,a,ha,_,_,_=>by cases ha
 |x::l,h,a,ha,c,hc,e=>by
  rw[Zc,Yd]at h;rcases Z5.1 ha with b|ha<;>rcases Z5.1 hc with d|hc
  ·rw[b,d]
  ·exact(h.1 (Z6.2 ⟨c,hc,by rw[<-e,b]⟩)).elim
  ·exact(h.1 (Z6.2 ⟨a,ha,by rw[e,d]⟩)).elim
  ·exact zbv h.2 a ha c hc e
end Tr
namespace Abs
def unitB(t:T):HObj:=.box 27 (z08 t)
def nodeB(t:T)(a:D):HObj:=.box 117 [.int .i64 t.id.act,.int .i64 t.id.item,.int .i64 t.id.n,.int .i64 t.kind,.str t.label,z0f t.head,z0f t.words,.nil,a]
def rowV(vs:List V):HObj:=.row 70 vs.length (vs.map fun v=>.ptr v.num 0)
abbrev Gr:=HM->Nat->V×HM×Nat
structure GS where
 r:Option Nat
 vs:List V
 H:HM
 n:Nat
def kdG(g:GS):D:=match g.r with
 |none=>.nil
 |some r=>.osl r g.vs.length
def stG(t:T)(b:Nat)(g:GS)(a:T×Gr):GS :=
 let o:=a.2 (z0m g.H g.n (some (unitB a.1))) (g.n+1)
 match g.r with
 |none=>⟨some o.2.2,g.vs++[o.1],z0m (z0m o.2.1 o.2.2 (some (rowV (g.vs++[o.1])))) b (some (nodeB t (.osl o.2.2 (g.vs.length+1)))),o.2.2+1⟩
 |some r=>⟨some r,g.vs++[o.1],z0m (z0m o.2.1 r (some (rowV (g.vs++[o.1])))) b (some (nodeB t (.osl r (g.vs.length+1)))),o.2.2⟩
def gs0(t:T)(H:HM)(nx:Nat):GS:=⟨none,[],z0m (z0m H nx (some (unitB t))) (nx+1) (some (nodeB t .nil)),nx+2⟩
def growF(t:T)(l:List Gr):Gr:=fun H a =>
 let g:=(t.kids.zip l).foldl (stG t (a+1)) (gs0 t H a)
 (.mk (a+1) g.r (t.setKids []) g.vs,g.H,g.n)
def z7k(t:T):Gr:=zgc growF t
def zup(t:T)(H:HM)(nx i:Nat):GS:=((t.kids.take i).map fun k=>(k,z7k k)).foldl (stG t (nx+1)) (gs0 t H nx)
theorem zip_growR(l:List T):l.zip (l.map z7k)=l.map fun k=>(k,z7k k):=by
 induction l with
 |nil=>rfl
 |cons k l a=>simp only[Zc,List.zip_cons_cons,a]
theorem zd9(t:T)(H:HM)(nx:Nat):z7k t H nx=(.mk (nx+1) (zup t H nx t.kids.length).r (t.setKids []) (zup t H nx t.kids.length).vs,(zup t H nx t.kids.length).H,(zup t H nx t.kids.length).n):=by
 have h:z7k t=growF t (t.kids.map z7k):=by unfold z7k;rw[z3r]
 rw[h];unfold growF zup;rw[zip_growR,ZA]
theorem zs1(t:T)(H:HM)(nx:Nat):zup t H nx 0=gs0 t H nx:=rfl
theorem zs3(t:T)(H:HM)(nx:Nat){i:Nat}(hi:i<t.kids.length):zup t H nx (i+1)=stG t (nx+1) (zup t H nx i) (t.kids[i],z7k t.kids[i]):=by
 unfold zup;rw[Zb hi,Zo,Yt];rfl
structure Grown (t:T) (H:HM) (nx:Nat) (o:V×HM×Nat):Prop where
 tree:treeV o.1=t
 le:nx+2<=o.2.2
 agree:Agree nx H o.2.1
 stand:Stand o.2.1 o.1
 under:Under o.2.2 o.1
 over:∀i∈objsV o.1,nx<=i
 nd:(objsV o.1).Nodup
structure GInv (t:T) (H:HM) (nx i:Nat) (g:GS):Prop where
 vs:g.vs.map treeV=t.kids.take i
 le:nx+2<=g.n
 agree:Agree nx H g.H
 unit:g.H nx=some (unitB t)
 node:g.H (nx+1)=some (nodeB t (kdG g))
 none_:g.r=none->g.vs=[]
 row:∀r,g.r=some r->nx+2<=r/\r<g.n/\g.H r=some (rowV g.vs)/\r∉g.vs.flatMap objsV
 stand:∀v∈g.vs,Stand g.H v
 under:∀i∈g.vs.flatMap objsV,nx+2<=i/\i<g.n
 nd:(g.vs.flatMap objsV).Nodup
theorem z2r(H:HM)(i:Nat)(o:Option HObj):z0m H i o i=o:=if_pos rfl
theorem z03{H:HM}{i j:Nat}(o:Option HObj)(h:¬j=i):z0m H i o j=H j:=if_neg h
theorem ginv_step{t:T}{H:HM}{nx i:Nat}{g:GS}(c:GInv t H nx i g)(hi:i<t.kids.length)(P:∀H n,Grown t.kids[i] H n (z7k t.kids[i] H n)):GInv t H nx (i+1) (stG t (nx+1) g (t.kids[i],z7k t.kids[i])):=by
 have L:=P (z0m g.H g.n (some (unitB t.kids[i]))) (g.n+1);unfold stG;simp only;generalize z7k t.kids[i] (z0m g.H g.n (some (unitB t.kids[i]))) (g.n+1)=o at L⊢;obtain⟨v,z,q⟩:=o;obtain⟨F,N,G,A,I,k,J⟩:=L;simp only at F N G A I k J;have O:=c.le
 -- what lay below g.n is as it was
 have a:∀j,j<g.n->z j=g.H j:=fun j hj=>(G j (by omega)).trans (z03 _ (by omega));have p:(g.vs++[v]).map treeV=t.kids.take (i+1):=by
  rw[Zo,c.vs,Zb hi];simp[F]
 have d:(g.vs++[v]).flatMap objsV=g.vs.flatMap objsV++objsV v:=by simp
 have b:∀m,q<=m->∀j∈(g.vs++[v]).flatMap objsV,nx+2<=j/\j<m:=fun m hm j hj=>by
  rw[d,Z7]at hj;rcases hj with hj|hj
  ·have:=c.under j hj;omega
  ·have:=k j hj;have:=I j hj;omega
 have l:((g.vs++[v]).flatMap objsV).Nodup:=by
  rw[d,Yu];refine⟨c.nd,J,fun x Q y R e=>?_⟩;have:=c.under x Q;have:=k y R;omega
 cases M:g.r with
 |none =>
  have C:=c.none_ M;simp only;have f:∀(s u:Option HObj),∀w∈g.vs++[v],Stand (z0m (z0m z q s) (nx+1) u) w:=fun s u w hw=>by
   have E:∀j∈objsV w,nx+2<=j/\j<q:=fun j hj=>b q (Zd _) j (Z9.2 ⟨w,hw,hj⟩);rcases Z7.1 hw with hw|hw
   ·rw[C]at hw;cases hw
   ·rw[Zn]at hw;subst hw;refine Stand.on w (fun j hj=>?_) A;have:=E j hj;rw[z03 _ (by omega),z03 _ (by omega)]
  refine⟨p,by simp only;omega,?_,?_,?_,(fun h=>by cases h),?_,fun w hw=>f _ _ w hw,b _ (by simp only;omega),l⟩
  ·refine fun j hj=>?_;simp only;rw[z03 _ (by omega),z03 _ (by omega),a j (by omega)];exact c.agree j hj
  ·simp only;rw[z03 _ (by omega),z03 _ (by omega),a nx (by omega)];exact c.unit
  ·simp only;rw[z2r];unfold kdG;simp only[Z3,Zt,ZW]
  ·intro r h;simp only[Zz]at h;subst h;simp only;refine⟨by omega,by omega,?_,fun hm=>?_⟩
   ·rw[z03 _ (by omega),z2r]
   ·have:=b q (Zd _) _ hm;omega
 |some r =>
  obtain⟨b1,U,W,K⟩:=c.row r M;simp only;have f:∀(s u:Option HObj),∀w∈g.vs++[v],Stand (z0m (z0m z r s) (nx+1) u) w:=fun s u w hw=>by
   rcases Z7.1 hw with hw|hw
   ·refine Stand.on w (fun j hj=>?_) (c.stand w hw);have hm:j∈g.vs.flatMap objsV:=Z9.2 ⟨w,hw,hj⟩;have:=c.under j hm;have B:¬j=r:=fun e=>K (e ▸ hm);rw[z03 _ (by omega),z03 _ B,a j (by omega)]
   ·rw[Zn]at hw;subst hw;refine Stand.on w (fun j hj=>?_) A;have:=k j hj;rw[z03 _ (by omega),z03 _ (by omega)]
  refine⟨p,by simp only;omega,?_,?_,?_,(fun h=>by cases h),?_,fun w hw=>f _ _ w hw,b _ (by simp only;omega),l⟩
  ·refine fun j hj=>?_;simp only;rw[z03 _ (by omega),z03 _ (by omega),a j (by omega)];exact c.agree j hj
  ·simp only;rw[z03 _ (by omega),z03 _ (by omega),a nx (by omega)];exact c.unit
  ·simp only;rw[z2r];unfold kdG;simp only[Z3,Zt,ZW]
  ·intro X h;simp only[Zz]at h;subst h;simp only;refine⟨by omega,by omega,?_,fun hm=>?_⟩
   ·rw[z03 _ (by omega),z2r]
   ·rw[d,Z7]at hm;rcases hm with hm|hm
    ·exact K hm
    ·have:=k _ hm;omega
theorem ginv_at{t:T}(d:∀k∈t.kids,∀H n,Grown k H n (z7k k H n))(H:HM)(nx:Nat):∀i,i<=t.kids.length->GInv t H nx i (zup t H nx i):=by
 intro i
 induction i with
 |zero =>
  intro _;rw[zs1];refine⟨by simp[gs0],Zd _,fun j b=>?_,?_,?_,fun _=>rfl,(fun r h=>by cases h),(fun v c=>by cases c),(fun j b=>by cases b),List.nodup_nil⟩
  ·show z0m (z0m H nx _) (nx+1) _ j=_;rw[z03 _ (by omega),z03 _ (by omega)]
  ·show z0m (z0m H nx _) (nx+1) _ nx=_;rw[z03 _ (by omega),z2r]
  ·show z0m (z0m H nx _) (nx+1) _ (nx+1)=_;rw[z2r];rfl
 |succ i a =>
  intro e;rw[zs3 t H nx (by omega)];exact ginv_step (a (by omega)) (by omega) (d _ (Z8 _))
theorem z8v:∀t:T,∀H n,Grown t H n (z7k t H n):=by
 refine z4a fun t p H i=>?_;have b:=ginv_at p H i t.kids.length (Zd _);rw[zd9];generalize zup t H i t.kids.length=g at b⊢;have d:=b.vs;rw[ZA]at d;have c:objsV (.mk (i+1) g.r (t.setKids []) g.vs)=(i+1)::(g.r.toList++g.vs.flatMap objsV):=z9b _;have l:=b.le;refine⟨?_,l,b.agree,?_,fun j hj=>?_,fun j hj=>?_,?_⟩
 ·rw[z3e];show (t.setKids []).setKids (g.vs.map treeV)=t;rw[d];exact T.eta t
 ·refine(z34 _ _).2 ⟨?_,?_,fun k m=>b.stand k m⟩
  ·exact b.node
  ·unfold zns;cases a:g.r with
   |none=>exact b.none_ a
   |some r=>exact(b.row r a).2.2.1
 ·rw[c,Z5,Z7]at hj;rcases hj with rfl|hj|hj
  ·simp only;omega
  ·cases a:g.r with
   |none=>rw[a]at hj;cases hj
   |some r=>rw[a]at hj;simp at hj;subst hj;exact(b.row _ a).2.1
  ·exact(b.under j hj).2
 ·rw[c,Z5,Z7]at hj;rcases hj with rfl|hj|hj
  ·omega
  ·cases a:g.r with
   |none=>rw[a]at hj;cases hj
   |some r=>rw[a]at hj;simp at hj;subst hj;have:=(b.row _ a).1;omega
  ·have:=(b.under j hj).1;omega
 ·rw[c,Yd,Z7,Yu];refine⟨?_,?_,b.nd,fun x f y o e=>?_⟩
  ·rintro(h|h)
   ·cases a:g.r with
    |none=>rw[a]at h;cases h
    |some r=>rw[a]at h;simp at h;subst h;have:=(b.row _ a).1;omega
   ·have:=(b.under _ h).1;omega
  ·cases g.r<;>simp
  ·cases a:g.r with
   |none=>rw[a]at f;cases f
   |some r =>
    rw[a]at f;simp at f;subst f;exact(b.row _ a).2.2.2 (e ▸ o)
end Abs
namespace Tr
inductive Chg (lo:Nat) (id:Idv) (E:V->V->Prop):V->V->Prop
 |here {v v':V}:v.own.id=id->lo<=v'.num->v'.own.id=v.own.id->E v v'->Chg lo id E v v'
 |down {v k k' v':V}{l r:List V}:¬v.own.id=id->v.kids=l++k::r->(∀x∈l,id∉idsT (treeV x))->Chg lo id E k k'->v'.own=v.own->v'.kids=l++k'::r->lo<=v'.num->Chg lo id E v v'
theorem Chg.hit{lo:Nat}{id:Idv}{E:V->V->Prop}{v v':V}(h:Chg lo id E v v'):id∈idsT (treeV v):=by
 induction h with
 |here h1 _ _ _=>rw[<-h1,<-z37];exact z1b _
 | @down v k k' v' l r h1 h2 h3 h4 h5 h6 h7 ih =>
  rw[z1c,z3e];refine Za _ (Z9.2 ⟨treeV k,?_,ih⟩);show treeV k∈v.kids.map treeV;rw[h2];simp
theorem Chg.root{lo:Nat}{id:Idv}{E:V->V->Prop}{v v':V}(h:Chg lo id E v v'):lo<=v'.num/\v'.own.id=v.own.id:=by
 cases h with
 |here e a b _=>exact⟨a,b⟩
 |down _ _ _ _ c _ d=>exact⟨d,by rw[c]⟩
theorem Chg.mono{lo a:Nat}(l:a<=lo){id:Idv}{E F:V->V->Prop}(i:∀v v',v.own.id=id->E v v'->F v v'){v v':V}(h:Chg lo id E v v'):Chg a id F v v':=by
 induction h with
 |here b d c e=>exact .here b (by omega) c (i _ _ b e)
 |down b d c _ f g k j=>exact .down b d c j f g (by omega)
theorem zvp{id:Idv}{f:T->T}:∀t:T,id∉idsT t->z10 id f t=t:=by
 refine z4a fun t c h=>?_;rw[z1c,Z5,not_or]at h;rw[z6h,if_neg fun e=>h.1 e.symm];have:t.kids.map (z10 id f)=t.kids:=by
  conv=>rhs;rw[<-List.map_id t.kids]
  exact ZQ fun k a=>c k a fun b=>h.2 (Z9.2 ⟨k,a,b⟩)
 rw[this];exact T.eta t
theorem z26(v:V):(treeV v).kids=v.kids.map treeV:=by rw[z3e];rfl
theorem zi2{lo:Nat}{id:Idv}{E:V->V->Prop}{f:T->T}{v v':V}(h:Chg lo id E v v')(hn:(idsT (treeV v)).Nodup)(hE:∀w∈nodesV v,∀w',w.own.id=id->E w w'->treeV w'=f (treeV w)):treeV v'=z10 id f (treeV v):=by
 induction h with
 |here h1 h2 h3 h4 =>
  rw[z6h,if_pos (by rw[z37];exact h1)];exact hE _ (z5b _) _ h1 h4
 | @down v k k' v' l r h1 h2 h3 h4 h5 h6 h7 ih =>
  obtain⟨n1,n2,n3⟩:=z77 hn;have hkm:treeV k∈(treeV v).kids:=by rw[z26,h2];simp
  have ihk:=ih (n2 _ hkm) fun w hw w'=>hE w (z36 (by rw[h2];simp) hw) w';rw[z6h,if_neg (by rw[z37];exact h1),z3e v',h5,h6,z26,h2];rw[z3e v];show v.own.setKids _=v.own.setKids _
  congr 1
  rw[Zo,Zo,Zo,Zc,Zc,Zc,ihk]
  congr 1
  ·rw[Y4];exact ZQ fun x hx=>(zvp _ (h3 x hx)).symm
  ·congr 1
   rw[Y4];refine ZQ fun x hx=>(zvp _ fun hm=>?_).symm
   -- the identifier is below k
   obtain⟨j,hj,rfl⟩:=ZR hx;have hlen:(treeV v).kids.length=l.length+(r.length+1):=by rw[z26,h2];simp
   refine n3 l.length (l.length+1+j) (by omega) (by omega) (by omega) id ?_ ?_
   ·have:(treeV v).kids[l.length]'(by omega)=treeV k:=by simp only[z26,h2,ZM];congr 1;rw[ZB (Zd _)];simp
    rw[this];exact h4.hit
   ·have:(treeV v).kids[l.length+1+j]'(by omega)=treeV r[j]:=by
     simp only[z26,h2,ZM];congr 1;rw[ZB (by omega),Yv,dif_neg (by omega)]
     congr 1;omega
    rw[this];exact hm
def zdv(id:Idv)(v:V):List Idv:=(z27 id (treeV v)).map T.id
theorem zeo{lo:Nat}{id:Idv}{E:V->V->Prop}{New:V->Prop}{v v':V}(h:Chg lo id E v v')(hn:(idsT (treeV v)).Nodup)(hlo:∀a∈nodesV v,a.num<lo)
  (hE:∀w∈nodesV v,∀w',w.own.id=id->E w w'->∀c∈w'.kids,∀a∈nodesV c,(∃d∈w.kids,a∈nodesV d) \/ New a) :
  ∀a∈nodesV v',(lo<=a.num/\a.own.id∈zdv id v) \/ (a.num<lo/\a∈nodesV v/\a.own.id∉zdv id v) \/ New a:=by
 induction h with
 | @here v v' h1 h2 h3 h4 =>
  intro a ha;have hp:zdv id v=[id]:=by unfold zdv;rw[z4m (by rw[z37];exact h1)];simp[z37,h1]
  obtain⟨n1,_,_⟩:=z77 hn;rw[z41,Z5]at ha;rcases ha with rfl|ha
  ·exact .inl ⟨h2,by rw[hp,h3,h1];simp⟩
  ·obtain⟨c,hc,ha⟩:=Z9.1 ha;rcases hE _ (z5b _) _ h1 h4 c hc a ha with ⟨d,hd,hda⟩|hN
   ·have hav:=z36 hd hda;refine .inr (.inl ⟨hlo a hav,hav,?_⟩);rw[hp,Zn];intro e;refine n1 (treeV d) (by rw[z26];exact Z6.2 ⟨d,hd,rfl⟩) ?_;rw[z37,h1,<-e,z81];exact Z6.2 ⟨a,hda,rfl⟩
   ·exact .inr (.inr hN)
 | @down v k k' v' l r h1 h2 h3 h4 h5 h6 h7 ih =>
  intro a ha;obtain⟨n1,n2,n3⟩:=z77 hn;have hk:k∈v.kids:=by rw[h2];simp
  have hkm:treeV k∈(treeV v).kids:=by rw[z26];exact Z6.2 ⟨k,hk,rfl⟩
  have hlen:(treeV v).kids.length=l.length+(r.length+1):=by rw[z26,h2];simp
  have hgk:(treeV v).kids[l.length]'(by omega)=treeV k:=by simp only[z26,h2,ZM];congr 1;rw[ZB (Zd _)];simp
  have hway:z27 id (treeV v)=treeV v::z27 id (treeV k):=by
   rw[<-hgk];refine z5j (by rw[z37];exact h1) (i:=l.length) (by omega) (fun j hj hjl=>?_) (by rw[hgk];exact z4s.2 h4.hit);have:(treeV v).kids[j]=treeV l[j]:=by simp only[z26,h2,ZM];congr 1;rw[Yk hj]
   rw[this];exact(z6a _ _).2 (h3 _ (Z8 hj))
  have hp:zdv id v=v.own.id::zdv id k:=by unfold zdv;rw[hway,Zc,z37]
  have hsub:∀i∈zdv id k,i∈idsT (treeV k):=fun i hi=>by
   obtain⟨z,hz,rfl⟩:=Z6.1 hi;exact Z6.2 ⟨z,zah _ _ z hz,rfl⟩
  -- a node below another kid
  have beside:∀j (hj:j<(treeV v).kids.length),j≠l.length->∀i∈idsT (treeV v).kids[j],i∉zdv id v:=fun j hj hne i hi hm=>by
   rw[hp,Z5]at hm;rcases hm with rfl|hm
   ·exact n1 _ (Z8 hj) (by rw[z37];exact hi)
   ·exact n3 j l.length hj (by omega) hne i hi (by rw[hgk];exact hsub i hm)
  rw[z41,Z5]at ha;rcases ha with rfl|ha
  ·exact .inl ⟨h7,by rw[hp,h5];simp⟩
  ·obtain⟨c,hc,ha⟩:=Z9.1 ha;rw[h6]at hc;have old:∀j (hj:j<v.kids.length),j≠l.length->c=v.kids[j]->(a.num<lo/\a∈nodesV v/\a.own.id∉zdv id v):=fun j hj hne e=>by
    have hav:=z36 (Z8 hj) (e ▸ ha);refine⟨hlo a hav,hav,beside j (by rw[z26,Zk];exact hj) hne _ ?_⟩;simp only[z26,ZM];rw[z81];exact Z6.2 ⟨a,e ▸ ha,rfl⟩
   have hvl:v.kids.length=l.length+(r.length+1):=by rw[h2];simp
   rcases Z7.1 hc with hc|hc
   ·obtain⟨j,hj,rfl⟩:=ZR hc;exact .inr (.inl (old j (by omega) (by omega) (by simp only[h2];rw[Yk hj])))
   ·rcases Z5.1 hc with rfl|hc
    ·rcases ih (n2 _ hkm) (fun x hx=>hlo x (z36 hk hx)) (fun w hw=>hE w (z36 hk hw)) a ha with ⟨g1,g2⟩|⟨g1,g2,g3⟩|g
     ·exact .inl ⟨g1,by rw[hp];exact Za _ g2⟩
     ·refine .inr (.inl ⟨g1,z36 hk g2,?_⟩);rw[hp,Z5,not_or];refine⟨fun e=>n1 _ hkm ?_,g3⟩;rw[z37,<-e,z81];exact Z6.2 ⟨a,g2,rfl⟩
     ·exact .inr (.inr g)
    ·obtain⟨j,hj,rfl⟩:=ZR hc;refine .inr (.inl (old (l.length+1+j) (by omega) (by omega) ?_));simp only[h2];rw[ZB (by omega),Yv,dif_neg (by omega)]
     congr 1;omega
end Tr
namespace Abs
abbrev Ch:=HM->Nat->Option Nat×HM×Nat
abbrev zyr:=V->Nat->Option Nat->HM->Nat->HM×Nat
def idB(i:Idv):HObj:=.box 23 (z0a i)
def kdR(r:Option Nat)(n:Nat):D:=match r with
 |none=>.nil
 |some r=>.osl r n
def row0:HObj:=.row 70 0 []
def zf6(v:V)(H:HM)(n:Nat):Option Nat×HM×Nat:=match v.row with
 |none=>(none,H,n)
 |some _=>(some (n+1),z0m (z0m H n (some row0)) (n+1) (some (rowV v.kids)),n+2)
def setK(v:V)(r:Option Nat)(i x:Nat)(H:HM):HM:=match r with
 |none=>H
 |some r=>z0m H r (some (.row 70 v.kids.length ((v.kids.map fun k=>.ptr k.num 0).set i (.ptr x 0))))
def zty(v:V)(c:Nat)(r:Option Nat):List Ch->Nat->Ch
 |[],_,H,n=>(none,H,n)
 |f::l,i,H,n=>if (f H n).1.isSome=true then (some c,setK v r i ((f H n).1.getD 0) (f H n).2.1,(f H n).2.2) else zty v c r l (i+1) (f H n).2.1 (f H n).2.2
def chgF(id:Idv)(E:zyr)(v:V)(l:List Ch):Ch:=fun H n =>
 let k:=zf6 v (z0m H n (some (idB id))) (n+1)
 let a:=z0m k.2.1 k.2.2 (some (nodeB v.own (kdR k.1 v.kids.length)))
 if v.own.id=id then (some k.2.2,E v k.2.2 k.1 a (k.2.2+1)) else zty v k.2.2 k.1 l 0 a (k.2.2+1)
def ztz(id:Idv)(E:zyr)(v:V):Ch:=recV (chgF id E) v
theorem chgR_eq(id:Idv)(E:zyr)(v:V):ztz id E v=chgF id E v (v.kids.map (ztz id E)):=by unfold ztz;rw[zjq]
structure PreE (lo m:Nat) (H:HM) (n c:Nat) (r:Option Nat) (v:V):Prop where
 lom:lo<=m
 mc:m<=c
 cn:c<n
 box:H c=some (nodeB v.own (kdR r v.kids.length))
 nor:r=none->v.kids=[]
 row:∀q,r=some q->m<=q/\q<c/\H q=some (rowV v.kids)
 kids:∀k∈v.kids,Stand H k/\Under lo k
structure PostE (lo m:Nat) (H:HM) (n c:Nat) (w:V) (Q:V->V->Prop) (o:HM×Nat) (w':V):Prop where
 num:w'.num=c
 id:w'.own.id=w.own.id
 stand:Stand o.1 w'
 under:Under o.2 w'
 objs:∀j∈objsV w',j<lo \/ m<=j
 le:n<=o.2
 agree:Agree m H o.1
 q:Q w w'
def zu0(lo:Nat)(H0:HM)(E:zyr)(Q:V->V->Prop)(w:V):Prop:=∀m H n c r,PreE lo m H n c r w->Agree lo H0 H->∃a,PostE lo m H n c w Q (E w c r H n) a
structure ChgOK (lo:Nat) (id:Idv) (Q:V->V->Prop) (v:V) (H:HM) (n:Nat) (o:Option Nat×HM×Nat):Prop where
 le:n<=o.2.2
 agree:Agree n H o.2.1
 no:id∉idsT (treeV v)->o.1=none
 yes:id∈idsT (treeV v)->∃v',o.1=some v'.num/\Chg n id Q v v'/\Stand o.2.1 v'/\Under o.2.2 v'/\∀j∈objsV v',j<lo \/ n<=j
theorem znv(v:V)(id:Idv):id∈idsT (treeV v) ↔ v.own.id=id \/ ∃k∈v.kids,id∈idsT (treeV k):=by
 rw[z1c,Z5,z37,z26,Z9];refine or_congr eq_comm ⟨fun⟨a,ha,h⟩=>?_,fun⟨k,b,h⟩=>⟨_,Z6.2 ⟨k,b,rfl⟩,h⟩⟩;obtain⟨k,b,rfl⟩:=Z6.1 ha;exact⟨k,b,h⟩
theorem zu1{lo:Nat}{id:Idv}{E:zyr}{Q:V->V->Prop}{v:V}{m:Nat}{H3:HM}{n3 c:Nat}{r:Option Nat}(a:PreE lo m H3 n3 c r v){H0:HM}(B:Agree lo H0 H3)(G:¬v.own.id=id)
  (ih:∀k∈v.kids,∀H n,lo<=n->Agree lo H0 H->Stand H k->Under lo k->ChgOK lo id Q k H n (ztz id E k H n)) :
  ∀(K L:List V),v.kids=L++K->(∀x∈L,id∉idsT (treeV x))->∀H n,n3<=n->Agree n3 H3 H ->
   let o:=zty v c r (K.map (ztz id E)) L.length H n
   n<=o.2.2/\Agree m H3 o.2.1/\((∀x∈K,id∉idsT (treeV x))->o.1=none) /\
   ((∃x∈K,id∈idsT (treeV x))->∃A,o.1=some A.num/\Chg m id Q v A/\Stand o.2.1 A/\Under o.2.2 A/\∀j∈objsV A,j<lo \/ m<=j):=by
 have W:=a.lom;have J:=a.mc;have a0:=a.cn;intro K
 induction K with
 |nil =>
  intro L g p H n hn t;exact⟨Zd _,fun j hj=>t j (by omega),fun _=>rfl,fun⟨x,hx,_⟩=>by cases hx⟩
 |cons k K R =>
  intro L g p H n hn t;have f:k∈v.kids:=by rw[g];simp
  obtain⟨a1,I⟩:=a.kids k f;have M:∀x∈v.kids,Stand H x:=fun x hx=>Stand.agree (n:=lo) (fun j hj=>t j (by omega)) x (a.kids x hx).2 (a.kids x hx).1;have U:=ih k f H n (by omega) (fun j hj=>(t j (by omega)).trans (B j hj)) (M k f) I;simp only[Zc,zty];generalize ztz id E k H n=o1 at U⊢;obtain⟨x1,l,n1⟩:=o1;obtain⟨k1,X,Y,Z⟩:=U;simp only at k1 X Y Z⊢;have i:Agree n3 H3 l:=fun j hj=>(X j (by omega)).trans (t j hj)
  by_cases b:id∈idsT (treeV k)
  ·obtain⟨s,rfl,F,N,O,y⟩:=Z b;simp only[Yp,if_true,Yx];obtain⟨q,hq⟩:∃q,r=some q:=by
    cases hr:r with
    |none=>rw[a.nor hr]at f;cases f
    |some q=>exact⟨q,rfl⟩
   subst hq;obtain⟨r1,r2,r3⟩:=a.row q rfl;have z:setK v (some q) L.length s.num l=z0m l q (some (rowV (L++s::K))):=by
    unfold setK rowV;simp only;rw[g];simp
   rw[z];refine⟨by omega,fun j hj=>?_,fun h=>(h k (by simp) b).elim,fun _=>⟨.mk c (some q) v.own (L++s::K),rfl,?_,?_,?_,?_⟩⟩
   ·rw[z03 _ (by omega)];exact i j (by omega)
   ·exact .down G g p (Chg.mono (by omega) (fun _ _ _ h=>h) F) rfl rfl J
   ·refine(z34 _ _).2 ⟨?_,?_,fun x hx=>?_⟩
    ·show z0m l q _ c=_;rw[z03 _ (by omega),i c (by omega),a.box];show some (nodeB v.own (.osl q v.kids.length))=_;have hl:(L++s::K).length=v.kids.length:=by rw[g];simp
     show _=some (HObj.box _ (z5c (.mk c (some q) v.own (L++s::K))));unfold z5c kdD;simp only[V.row,V.kids,V.own];rw[hl];rfl
    ·show z0m l q _ q=_;rw[z2r];rfl
    ·have old:∀x∈v.kids,Stand (z0m l q (some (rowV (L++s::K)))) x:=fun x hx=>by
      refine Stand.on x (fun j hj=>?_) (a.kids x hx).1;have:=(a.kids x hx).2 j hj;rw[z03 _ (by omega)];exact i j (by omega)
     rcases Z7.1 hx with hx|hx
     ·exact old x (by rw[g];exact ZZ _ hx)
     ·rcases Z5.1 hx with rfl|hx
      ·refine Stand.on x (fun j hj=>?_) N;have:=y j hj;rw[z03 _ (by omega)]
      ·exact old x (by rw[g];exact ZY _ (Za _ hx))
   all_goals
    intro j hj;rw[z9b,Z5,Z7]at hj;rcases hj with e|hj|hj
    ·have e:j=c:=e;omega
    ·have hj:j∈(some q).toList:=hj;simp only[Y3,Zn]at hj;omega
    ·obtain⟨x,hx,d⟩:=Z9.1 hj;clear hj;rcases Z7.1 hx with hx|hx
     ·have:=(a.kids x (by rw[g];exact ZZ _ hx)).2 j d;omega
     ·rcases Z5.1 hx with e|hx
      ·rw[e]at d;have:=y j d;have:=O j d;omega
      ·have:=(a.kids x (by rw[g];exact ZY _ (Za _ hx))).2 j d;omega
  ·have P:=Y b;subst P;simp only[Yq,Yr,if_false];have C:v.kids=(L++[k])++K:=by rw[g];simp
   have w:∀x∈L++[k],id∉idsT (treeV x):=fun x hx=>by
    rcases Z7.1 hx with hx|hx
    ·exact p x hx
    ·rw[Zn]at hx;subst hx;exact b
   have h:=R (L++[k]) C w l n1 (by omega) i;rw[Z3,List.length_singleton]at h;obtain⟨g1,g2,g3,g4⟩:=h;refine⟨by omega,g2,fun u=>g3 fun x hx=>u x (Za _ hx),fun⟨x,hx,hxi⟩=>g4 ?_⟩;rcases Z5.1 hx with rfl|hx
   ·exact(b hxi).elim
   ·exact⟨x,hx,hxi⟩
theorem zr8{lo n:Nat}{id:Idv}{H:HM}{v:V}(c:lo<=n)(l:Stand H v)(g:Under lo v) :
  let k:=zf6 v (z0m H n (some (idB id))) (n+1)
  let e:=z0m k.2.1 k.2.2 (some (nodeB v.own (kdR k.1 v.kids.length)))
  PreE lo n e (k.2.2+1) k.2.2 k.1 v/\Agree n H e/\n<k.2.2/\e n=some (idB id):=by
 obtain⟨p,d,m⟩:=(z34 H v).1 l;unfold zf6;unfold zns at d;cases i:v.row with
 |none =>
  rw[i]at d;simp only at d⊢;have a:∀o:Option HObj,Agree n H (z0m (z0m H n (some (idB id))) (n+1) o):=fun o j f=>by rw[z03 _ (by omega),z03 _ (by omega)]
  refine⟨⟨c,by omega,by omega,z2r _ _ _,fun _=>d,(fun q h=>by cases h),fun k b=>?_⟩,a _,by omega,by rw[z03 _ (by omega),z2r]⟩;rw[d]at b;cases b
 |some r =>
  simp only;have a:∀o:Option HObj,Agree n H (z0m (z0m (z0m (z0m H n (some (idB id))) (n+1) (some row0)) (n+1+1) (some (rowV v.kids))) (n+1+2) o):=fun o j f=>by
   rw[z03 _ (by omega),z03 _ (by omega),z03 _ (by omega),z03 _ (by omega)]
  refine⟨⟨c,by omega,by omega,z2r _ _ _,(fun h=>by cases h),fun q h=>?_,fun k b=>?_⟩,a _,by omega,by rw[z03 _ (by omega),z03 _ (by omega),z03 _ (by omega),z2r]⟩
  ·simp only[Zz]at h;subst h;refine⟨by omega,by omega,?_⟩;rw[z03 _ (by omega),z2r]
  ·exact⟨Stand.agree (fun j f=>a _ j (by omega)) k (z5d g b) (m k b),z5d g b⟩
theorem zr9{lo:Nat}{id:Idv}{E:zyr}{Q:V->V->Prop}{H0:HM}:∀v:V,(∀w∈nodesV v,w.own.id=id->zu0 lo H0 E Q w)->∀H n,lo<=n->Agree lo H0 H->Stand H v->Under lo v->ChgOK lo id Q v H n (ztz id E v H n):=by
 refine zgg fun v O z H n s F M N=>?_;obtain⟨l,d,i,_⟩:=zr8 (id:=id) s M N;rw[chgR_eq];unfold chgF;simp only;generalize p:zf6 v (z0m H n (some (idB id))) (n+1)=k at l d i⊢;obtain⟨r,Hk,c⟩:=k;simp only at l d i⊢;have g:Agree lo H0 (z0m Hk c (some (nodeB v.own (kdR r v.kids.length)))):=fun j f=>(d j (by omega)).trans (F j f)
 by_cases a:v.own.id=id
 ·rw[if_pos a];obtain⟨P,b⟩:=z v (z5b v) a _ _ _ _ _ l g;generalize E v c r (z0m Hk c (some (nodeB v.own (kdR r v.kids.length)))) (c+1)=o at b⊢;have L:=b.le;refine⟨by simp only;omega,fun j f=>(b.agree j f).trans (d j f),fun h=>(h ((znv v id).2 (.inl a))).elim,fun _=>⟨P,by rw[b.num],.here a (by rw[b.num];omega) b.id b.q,b.stand,b.under,b.objs⟩⟩
 ·rw[if_neg a];have h:=zu1 (id:=id) (E:=E) (Q:=Q) l g a (fun k p H n G I J K=>O k p (fun w b=>z w (z36 p b)) H n G I J K) v.kids [] rfl (fun x u=>by cases u) _ _ (Zd _) (Agree.refl _ _);simp only[ZW]at h;obtain⟨R,A,B,C⟩:=h;refine⟨by omega,fun j f=>(A j f).trans (d j f),fun t=>B fun x u y=>t ((znv v id).2 (.inr ⟨x,u,y⟩)),fun m=>C ?_⟩;rcases(znv v id).1 m with e|h
  ·exact(a e).elim
  ·exact h
end Abs
end
open _root_.Go.Proofs.Tryz
section
open Abs Facts Tr
attribute [local irreducible] awp
set_option maxRecDepth 100000
theorem zdt{a b:Nat}(h:¬a=b):(a==b)=false:=by simpa using h
def zdh(v:V)(q:Nat)(i:Nat):List D:=[.int .i64 v.own.id.act,.int .i64 v.own.id.item,.int .i64 v.own.id.n,.int .i64 v.own.kind,.str v.own.label,z0f v.own.head,z0f v.own.words,.osl q i]
theorem zi1{H:HM}{v:V}(c:Stand H v){nx:Nat}(d:Under nx v):(v.row=none/\v.kids=[]) \/ ∃r,v.row=some r/\r<nx/\H r=some (.row 70 v.kids.length (v.kids.map fun k=>.ptr k.num 0)):=by
 obtain⟨e,a,f⟩:=(z34 H v).1 c;unfold zns at a;cases b:v.row with
 |none=>rw[b]at a;exact .inl ⟨rfl,a⟩
 |some r=>rw[b]at a;exact .inr ⟨r,rfl,d r (zwh b),a⟩
theorem ac_tree1(v:V)(hs:szB (treeV v)=true)(ih:∀k∈v.kids,∀H nx,Under nx k->Stand H k->RC prog 53 [.ptr k.num 0] H nx (z0o (treeV k)))(H:HM)(nx:Nat)(G:Under nx v)(z:Stand H v) :
  AC prog 53 [.ptr v.num 0] H nx fun r Y W=>r=.agg (zdh v (nx+2) v.kids.length)/\nx+3<=W/\Y (nx+2)=some (.row 27 v.kids.length ((v.kids.map treeV).flatMap z08))/\∀j,j<nx->Y j=H j:=by
 obtain⟨X,s2,s3⟩:=(z34 H v).1 z;have w:=G _ (z5m v);obtain⟨h0,h1,g1,h2,g2,h3,h4⟩:=(z1k _).1 hs;have P:=zi1 z G;have L:(treeV v).head=v.own.head/\(treeV v).words=v.own.words/\(treeV v).kids=v.kids.map treeV:=by rw[z3e];exact⟨rfl,rfl,rfl⟩
 rw[L.1]at h1;rw[L.2.1]at h2;rw[L.2.2,Zk]at h3;have Z:=z7l v.own.head (by omega);have c2:=z7l v.own.words (by omega);refine(zqzj [3000028] func53 rfl (by decide+kernel) rfl ?_);rw[show Tryz.f53.results.toList=[.cell 2 27] from rfl];have d:=z69 w
 repeat'(first|refine nxt ?_|((first|refine z09 (N:=3) rfl fun K h=>?_|refine z1s (N:=3) rfl (by decide+kernel) fun K h=>?_|refine zqt (Z) ?_|refine zqt (c2) ?_);simp(disch:=omega)only[go_sem,Z0,↓reduceIte,reduceCtorEq,Z2,Z1,Zj,X,d,z5c,z0f])|(refine h _ ?_;clear h K))
 refine z33 fun K h=>?_;rcases P with ⟨R,u⟩|⟨r,R,x,y⟩
 ·have I:kdD v=.nil:=by unfold kdD;rw[R]
  (simp(disch:=omega)only[go_sem,Z0,↓reduceIte,reduceCtorEq,Z2,X,d,z5c,I]);refine h _ _ (z9s (b:=nx+1) (off:=7) (e:=27) 27 (by(simp(disch:=omega)only[go_sem,d]);rfl) rfl) ?_;clear h K
  repeat'(refine zqa ?_)
  (refine zqL (fun A c=>∃(i:Nat),A=1-i/\c.t 2=.ptr nx 0/\c.t 3=.ptr (nx+1) 0/\c.t 22=.int .i64 0/\c.t 23=.int .i64 0/\c.H (nx)=some (.box 27 [.int .i64 0,.int .i64 0,.int .i64 0,.int .i64 0,.str Ye,.nil,.nil,.nil])/\c.H (nx+1)=some (.box 27 (zdh v (nx+2) 0))/\c.H (nx+2)=some (.row 27 0 [])/\(nx+3<=c.nx)/\(∀j,j<nx->c.H j=H j)) ?_ ?_);rintro A c ⟨i,rfl,q,C,m,n,g,f,a,E,F⟩;rotate_left
  ·(refine⟨_,0,rfl,?_⟩);simp(disch:=omega)only[go_sem,Z0,Z1,true_and,z0f,Zf,Zg,zdh,d];exact⟨by omega,fun j l=>by simp(disch:=omega)only[z40]⟩
  repeat'(first|((refine zqh fun K h=>?_);simp(disch:=omega)only[go_sem,Z0,↓reduceIte,Z2,Z1,Y5,q,C,m,n,g,f,zdh,Zf,Zg])|(refine zqd _ rfl ?_ ?_<;>intro s<;>(first|(cases s;done)|((try omega))))|refine nxt ?_|refine zqz ?_|refine zqu (by(simp(disch:=omega)only[go_sem,Z0,↓reduceIte,Z2,Z1,q,g]);rfl) rfl ?_|(refine h _ ?_;clear h K))
  (simp(disch:=omega)only[go_sem,a,d]);rw[u];exact⟨rfl,E,rfl,fun j l=>by simp(disch:=omega)only[z40];exact F j l⟩
 ·have I:kdD v=.osl r v.kids.length:=by unfold kdD;rw[R]
  have a0:=z69 x;simp(disch:=omega)only[go_sem,Z0,↓reduceIte,reduceCtorEq,Z2,X,d,z5c,I];refine h _ _ (z9s (b:=nx+1) (off:=7) (e:=27) 27 (by(simp(disch:=omega)only[go_sem,d]);rfl) rfl) ?_;clear h K
  repeat'(refine zqa ?_)
  (refine zqL (fun A c=>∃(i:_),A=v.kids.length-i/\c.t 2=.ptr nx 0/\c.t 3=.ptr (nx+1) 0/\c.t 21=.osl r v.kids.length/\c.t 22=.int .i64 v.kids.length/\c.t 23=.int .i64 i/\c.H (nx)=some (.box 27 [.int .i64 0,.int .i64 0,.int .i64 0,.int .i64 0,.str Ye,.nil,.nil,.nil])/\c.H (nx+1)=some (.box 27 (zdh v (nx+2) i))/\c.H (nx+2)=some (.row 27 i (((v.kids.take i).map treeV).flatMap z08))/\(i<=v.kids.length)/\(nx+3<=c.nx)/\(∀j,j<nx->c.H j=H j)) ?_ ?_);rintro A c ⟨i,rfl,q,C,B,m,n,g,f,a,E,F,o⟩;rotate_left
  ·(refine⟨_,0,rfl,?_⟩);simp(disch:=omega)only[go_sem,Z0,Z1,true_and,Zl,ZN,ZV,z0f,Zf,Zg,zdh,d];exact⟨by omega,fun j l=>by simp(disch:=omega)only[z40]⟩
  have Q:c.H r=some (.row 70 v.kids.length (v.kids.map fun k=>.ptr k.num 0)):=(o r x).trans y
  by_cases p:i<v.kids.length
  ·have O:=ih v.kids[i] (Z8 p) c.H c.nx (fun j l=>by have:=z5d G (Z8 p) j l;omega) (Stand.on _ (fun j l=>o j (z5d G (Z8 p) j l)) (s3 _ (Z8 p)));have U:=Zb p;have J:v.kids[i]?=some v.kids[i]:=Ze p
   repeat'(first|((first|refine zqh fun K h=>?_|refine zqr fun K h=>?_|refine zqq (by decide+kernel) fun K h=>?_|refine zfi (O) rfl ?_);simp(disch:=omega)only[go_sem,Z0,↓reduceIte,reduceCtorEq,Z2,YH,Z1,Zj,C,B,m,n,f,a,d,Q,J,zdh,Zf,Zg])|(refine zqd _ rfl ?_ ?_<;>intro s<;>(((try simp only[z05]at s);try omega)))|refine nxt ?_|(refine h _ ?_;clear h K))
   (refine⟨_,?_,i+1,rfl,?_⟩);rotate_left;simp(disch:=omega)only[go_sem,Z0,q,C,B,m,n,g,f,a,true_and,Zh,Zi,ZC,ZH,ZN,Zo,Zc,ZV,Yf,d,U,zdh];rotate_left
   ·omega
   ·exact⟨by omega,by omega,fun j l=>by simp(disch:=omega)only[z40];exact o j l⟩
  ·repeat'(first|((refine zqh fun K h=>?_);simp(disch:=omega)only[go_sem,Z0,↓reduceIte,Z2,Z1,q,C,m,n,g,f,zdh,Zf,Zg])|(refine zqd _ rfl ?_ ?_<;>intro s<;>(((try simp only[z05]at s);try omega)))|refine nxt ?_|refine zqz ?_|refine zqu (by(simp(disch:=omega)only[go_sem,Z0,↓reduceIte,Z2,Z1,q,g]);rfl) rfl ?_|(refine h _ ?_;clear h K))
   have M:i=v.kids.length:=by omega
   subst M;rw[ZA]at a;simp(disch:=omega)only[go_sem,a,d]
   repeat'(first|exact rfl|omega|(intro j l;simp(disch:=omega)only[z40];exact o j l)|refine And.intro ?_ ?_)
theorem zp7{v k:V}(b:szB (treeV v)=true)(a:k∈v.kids):szB (treeV k)=true:=by
 obtain⟨_,_,_,_,_,_,h⟩:=(z1k _).1 b;exact h _ (by rw[z26];exact Z6.2 ⟨k,a,rfl⟩)
theorem rc_tree:∀v:V,szB (treeV v)=true->∀H b,Under b v->Stand H v->RC prog 53 [.ptr v.num 0] H b (z0o (treeV v)):=by
 refine zgg fun v i e H b h c=>?_;refine RC_fin (k:=4) (z02 _) ((ac_tree1 v e (fun k d=>i k d (zp7 e d)) H b h c).mono fun r m j ⟨g,h2,h3,h4⟩=>⟨?_,h4⟩);subst g;rw[z3e,z0o,z0n];refine⟨_,z6j (k:=3) (by simp[zdh,pureD.pureL,pureD]) (z00 (z0e 2 rfl) (z00 (z0e 2 rfl) (z00 (z0e 2 rfl) (z00 (z0e 2 rfl) (z00 (z0e 2 rfl) (z00 (z0e 2 (z0g _)) (z00 (z0e 2 (z0g _)) (z00 ?_ z0i)))))))),XV _⟩;have a:v.kids.length=(v.kids.map treeV).length:=by simp
 rw[a];refine z2b (f:=z08) (l:=v.kids.map treeV) 1 ?_ z0p z35 z0h z04;rw[hi_get (by omega),h3,<-a]
theorem z7g(H:HM)(i:Nat)(a b:Option HObj):z0m (z0m H i a) i b=z0m H i b:=by
 funext j;unfold z0m;split<;>rfl
def zhm(step:V->HObj->HObj)(l:List V)(o:HObj):HObj:=l.foldl (fun o w=>step w o) o
theorem zp8(step:V->HObj->HObj)(l m:List V)(o:HObj):zhm step (l++m) o=zhm step m (zhm step l o):=Yt
theorem foldS_I{step:V->HObj->HObj}{I:HObj->Prop}{S:V->Prop}(a:∀w o,S w->I o->I (step w o)):∀(l:List V),(∀w∈l,S w)->∀(o:HObj),I o->I (zhm step l o)
 |[],_,_,h=>h
 |w::l,b,o,h=>foldS_I a l (fun x c=>b x (Za _ c)) (step w o) (a w o (b w (by simp)) h)
theorem ac_each{g:FuncId}{cap:List D}{k:Nat}(step:V->HObj->HObj)(I:HObj->Prop)(F:HM->Prop)(hF:∀H o,F H->F (z0m H k (some o)))(S:V->Prop)(hI:∀w o,S w->I o->I (step w o)) :
  ∀v:V,szB (treeV v)=true->(∀w∈nodesV v,S w)->(∀H,F H->∀w∈nodesV v,Stand H w) ->
  (∀w∈nodesV v,∀H j o,Under j w->k<j->H k=some o->I o->F H->AC prog g (.ptr w.num 0::cap) H j fun r u c=>r=.tup []/\u=z0m H k (some (step w o))/\c=j) ->
  ∀H j o,Under j v->k<j->H k=some o->I o->F H->AC prog 54 [.ptr v.num 0,.fn g cap] H j fun r u c=>r=.tup []/\u=z0m H k (some (zhm step (nodesV v) o))/\c=j:=by
 refine zgg fun v ih hs p R hv H j o O hk hH A f=>?_;have Q:v.kids.length<=1000000:=by
  obtain⟨_,_,_,_,_,Q,_⟩:=(z1k _).1 hs;rw[z26,Zk]at Q;exact Q
 have c1:=hv v (z5b v) H j o O hk hH A f;have y:=hF H (step v o) f;have h:=R _ y v (z5b v);obtain⟨s1,s2,s3⟩:=(z34 _ v).1 h;have C:=zi1 h O;have a3:=O _ (z5m v);refine(zqzj [] func54 rfl (by decide+kernel) rfl ?_)
 repeat'(((refine zqh fun K a=>?_);simp(disch:=omega)only[go_sem,Z0]))
 refine z2i (c1.mono fun r u c ⟨x,e2,P⟩=>?_);subst x;subst P;rw[<-e2]at s1 C y h;have a5:u k=some (step v o):=by rw[e2];exact z3k
 rcases C with ⟨N,E⟩|⟨r,N,a6,a4⟩
 ·have x:kdD v=.nil:=by unfold kdD;rw[N]
  (try(simp(disch:=omega)only[go_sem]));repeat'(first|((refine zqh fun K a=>?_);simp(disch:=omega)only[go_sem,Z0,↓reduceIte,reduceCtorEq,Z2,s1,z5c,x])|refine nxt ?_|(refine a _ ?_;clear a K))
  (refine zqL (fun J b=>∃(i:Nat),J=1-i/\b.t 13=.int .i64 0/\b.t 14=.int .i64 0/\b.nx=c/\(b.H=u)) ?_ ?_);rintro J b ⟨i,rfl,l,e,n,M⟩;rotate_left
  ·(refine⟨_,0,rfl,?_⟩);simp(disch:=omega)only[go_sem,Z0,and_self]
  repeat'(first|((refine zqh fun K a=>?_);simp(disch:=omega)only[go_sem,↓reduceIte,Y5,l,e])|(refine zqd _ rfl ?_ ?_<;>intro B<;>(first|(cases B;done)|((try omega))))|refine nxt ?_|refine zqz ?_|refine zqU ?_|(refine a _ ?_;clear a K))
  (simp(disch:=omega)only[go_sem,n]);rw[M,e2,z41,E]
  rfl
 ·have x:kdD v=.osl r v.kids.length:=by unfold kdD;rw[N]
  (try(simp(disch:=omega)only[go_sem]));repeat'(first|((refine zqh fun K a=>?_);simp(disch:=omega)only[go_sem,Z0,↓reduceIte,reduceCtorEq,Z2,s1,z5c,x])|refine nxt ?_|(refine a _ ?_;clear a K))
  (refine zqL (fun J b=>∃(i:_),J=v.kids.length-i/\b.t 1=.fn g cap/\b.t 12=.osl r v.kids.length/\b.t 13=.int .i64 v.kids.length/\b.t 14=.int .i64 i/\b.nx=c/\(i<=v.kids.length)/\(b.H=z0m H k (some (zhm step ((v.kids.take i).flatMap nodesV) (step v o))))) ?_ ?_);rintro J b ⟨i,rfl,q1,L,l,e,n,M,m⟩;rotate_left
  ·(refine⟨_,0,rfl,?_⟩);simp(disch:=omega)only[go_sem,Z0,true_and,Zl,ZN];exact e2
  have z:F b.H:=by rw[m];exact hF _ _ f
  have G:=R _ z v (z5b v);obtain⟨_,s,a7⟩:=(z34 _ v).1 G;have a0:b.H r=some (.row 70 v.kids.length (v.kids.map fun k=>.ptr k.num 0)):=by
   unfold zns at s;rw[N]at s;exact s
  by_cases W:i<v.kids.length
  ·have U:v.kids[i]?=some v.kids[i]:=Ze W;have d:=Z8 W
   have Y:=ih v.kids[i] d (zp7 hs d) (fun w q=>p w (z36 d q)) (fun H f w q=>R H f w (z36 d q)) (fun w q=>hv w (z36 d q)) b.H c (zhm step ((v.kids.take i).flatMap nodesV) (step v o)) (z5d O d) hk (by rw[m];exact z3k) (foldS_I hI _ (fun w q=>by
     obtain⟨k2,Z,a2⟩:=Z9.1 q
     exact p w (z36 (Zr Z) a2)) _ (hI _ _ (p v (z5b v)) A)) z
   repeat'(first|((first|refine zqh fun K a=>?_|refine zqr fun K a=>?_);simp(disch:=omega)only[go_sem,Z0,↓reduceIte,reduceCtorEq,Z2,q1,L,l,e,n,a0,U])|(refine zqd _ rfl ?_ ?_<;>intro B<;>(((try simp only[z05]at B);try omega)))|refine nxt ?_|(refine a _ ?_;clear a K))
   refine z2i (Y.mono fun r2 H2 n2 ⟨P,e4,e5⟩=>?_);subst P;subst e5;(try(simp(disch:=omega)only[go_sem]));repeat'(first|((refine zqr fun K a=>?_);simp(disch:=omega)only[go_sem,Z0,↓reduceIte,e])|refine nxt ?_|(refine a _ ?_;clear a K))
   have a1:=Zb W;(refine⟨_,?_,i+1,rfl,?_⟩);rotate_left;simp(disch:=omega)only[go_sem,Z0,q1,L,l,e,true_and,Zh,Zi];rotate_left
   ·omega
   ·refine⟨by omega,?_⟩;rw[e4,m,z7g,a1,ZC,zp8];simp only[ZH,ZN,Yf]
  ·repeat'(first|((refine zqh fun K a=>?_);simp(disch:=omega)only[go_sem,↓reduceIte,l,e])|(refine zqd _ rfl ?_ ?_<;>intro B<;>(((try simp only[z05]at B);try omega)))|refine nxt ?_|refine zqz ?_|refine zqU ?_|(refine a _ ?_;clear a K))
   have X:i=v.kids.length:=by omega
   subst X;rw[ZA]at m;refine⟨rfl,?_,n⟩;simp(disch:=omega)only[go_sem];rw[m,z41];rfl
def zb2(id:Idv)(v:V):D:=match (nodesV v).find? (fun w=>decide (w.own.id=id))with
 |some w=>.ptr w.num 0
 |none=>.nptr
theorem rc_find(id:Idv):∀v:V,szB (treeV v)=true->∀H p,Under p v->Stand H v->RC prog 104 [.ptr v.num 0,z0z id] H p (zb2 id v):=by
 refine zgg fun v ih hs H p L J=>?_;obtain⟨s1,s2,s3⟩:=(z34 H v).1 J;have E:=L _ (z5m v);have P:v.kids.length<=1000000:=by
  obtain⟨_,_,_,_,_,P,_⟩:=(z1k _).1 hs;rw[z26,Zk]at P;exact P
 have X:=zi1 J L;have B:=z69 E;have A:lowD p (zb2 id v)=true:=by
  unfold zb2;split
  ·rename_i w hw;have:=z4w L (Yh hw) _ (z5m w)
   simpa [lowD] using this
  ·rfl
 refine RC_low A (zqzj [3000012,3000013] func104 rfl (by decide+kernel) rfl ?_)
 have m:zb2 id v=if v.own.id=id then .ptr v.num 0 else match (v.kids.flatMap nodesV).find? (fun w=>decide (w.own.id=id))with
  |some w=>.ptr w.num 0
  |none=>.nptr:=by
  unfold zb2;rw[z41,List.find?_cons]
  by_cases e:v.own.id=id<;>simp[e]
 have W:∀w:V,zb2 id w=.nptr/\(nodesV w).find? (fun w=>decide (w.own.id=id))=none \/ ∃x,zb2 id w=.ptr x.num 0/\(nodesV w).find? (fun w=>decide (w.own.id=id))=some x:=fun w=>by
  unfold zb2;cases (nodesV w).find? (fun w=>decide (w.own.id=id))with
  |none=>exact .inl ⟨rfl,rfl⟩
  |some x=>exact .inr ⟨x,rfl,rfl⟩
 rcases X with ⟨Y,C⟩|⟨r,Y,G,I⟩
 ·have O:kdD v=.nil:=by unfold kdD;rw[Y]
  repeat'(first|refine nxt ?_|((first|refine zqh fun K b=>?_|refine zqe (by decide+kernel) fun K b=>?_);simp(disch:=omega)only[go_sem,Z0,Z4,↓reduceIte,reduceCtorEq,Z2,Z1,s1,B,z5c,O])|(refine zqd _ rfl ?_ ?_<;>intro a<;>(((try simp only[z05]at a);try omega)))|refine zqU ?_|(refine b _ ?_;clear b K))
  ·(simp(disch:=omega)only[go_sem,Z0]);rw[m,if_pos a];exact⟨rfl,fun j u=>by simp(disch:=omega)only[z40]⟩
  ·(refine zqL (fun M c=>∃(i:Nat),M=1-i/\c.t 20=.int .i64 0/\c.t 21=.int .i64 0/\(∀j,j<p->c.H j=H j)) ?_ ?_);rintro M c ⟨i,rfl,d,f,N⟩;rotate_left
   ·(refine⟨_,0,rfl,?_⟩);simp(disch:=omega)only[go_sem,Z0,true_and];exact fun j u=>by simp(disch:=omega)only[z40]
   repeat'(first|((refine zqh fun K b=>?_);simp(disch:=omega)only[go_sem,↓reduceIte,Y5,d,f])|(refine zqd _ rfl ?_ ?_<;>intro a<;>(first|(cases a;done)|((try omega))))|refine nxt ?_|refine zqz ?_|refine zqU ?_|(refine b _ ?_;clear b K))
   (simp(disch:=omega)only[go_sem,Z0]);rw[m,if_neg (by assumption),C];exact⟨rfl,N⟩
 ·have O:kdD v=.osl r v.kids.length:=by unfold kdD;rw[Y]
  have a0:=z69 G
  repeat'(first|refine nxt ?_|((first|refine zqh fun K b=>?_|refine zqe (by decide+kernel) fun K b=>?_);simp(disch:=omega)only[go_sem,Z0,Z4,↓reduceIte,reduceCtorEq,Z2,Z1,s1,B,z5c,O])|(refine zqd _ rfl ?_ ?_<;>intro a<;>(((try simp only[z05]at a);try omega)))|refine zqU ?_|(refine b _ ?_;clear b K))
  ·(simp(disch:=omega)only[go_sem,Z0]);rw[m,if_pos a];exact⟨rfl,fun j u=>by simp(disch:=omega)only[z40]⟩
  ·rw[m,if_neg (by assumption)];(refine zqL (fun M c=>∃(i:_),M=v.kids.length-i/\c.t 3=.ptr p 0/\c.t 19=.osl r v.kids.length/\c.t 20=.int .i64 v.kids.length/\c.t 21=.int .i64 i/\c.H (p)=some (.box 23 [.int .i64 id.act,.int .i64 id.item,.int .i64 id.n])/\(i<=v.kids.length)/\(p+1<=c.nx)/\(∀j,j<p->c.H j=H j)/\(((v.kids.take i).flatMap nodesV).find? (fun w=>decide (w.own.id=id))=none)) ?_ ?_);rintro M c ⟨i,rfl,q3,y,d,f,h,N,a1,l,q⟩;rotate_left
   ·(refine⟨_,0,rfl,?_⟩);simp(disch:=omega)only[go_sem,Z0,Z1,true_and,Zl,ZN];exact⟨Zd _,(fun j u=>by simp(disch:=omega)only[z40]),rfl⟩
   have F:c.H r=some (.row 70 v.kids.length (v.kids.map fun k=>.ptr k.num 0)):=(l r G).trans I
   by_cases R:i<v.kids.length
   ·have z:v.kids[i]?=some v.kids[i]:=Ze R;have g:=Z8 R;have Z:=Zb R;have o:=ih v.kids[i] g (zp7 hs g) c.H c.nx (fun j u=>by have:=z5d L g j u;omega) (Stand.on _ (fun j u=>l j (z5d L g j u)) (s3 _ g));rcases W v.kids[i]with ⟨Q,s⟩|⟨x,Q,s⟩
    ·rw[Q]at o
     repeat'(first|((first|refine zqh fun K b=>?_|refine zqr fun K b=>?_|refine z20 (o) ?_);simp(disch:=omega)only[go_sem,Z0,↓reduceIte,reduceCtorEq,Z2,Z1,q3,y,d,f,h,F,z])|((first|refine zqd _ rfl (fun a=>?_) (fun a=>?_)|refine zqm _ rfl (fun a=>?_) (fun a=>?_))<;>(first|(cases a;done)|((try simp only[z05]at a);try omega)))|refine nxt ?_|(refine b _ ?_;clear b K))
     (refine⟨_,?_,i+1,rfl,?_⟩);rotate_left;simp(disch:=omega)only[go_sem,Z0,q3,y,d,f,h,true_and,Zh,Zi];rotate_left
     ·omega
     ·refine⟨by omega,by omega,l,?_⟩;rw[Z,ZC,Y6,q];simp[s]
    ·rw[Q]at o
     repeat'(first|((first|refine zqh fun K b=>?_|refine z20 (o) ?_);simp(disch:=omega)only[go_sem,Z0,↓reduceIte,reduceCtorEq,Z2,Z1,q3,y,d,f,h,F,z])|((first|refine zqd _ rfl (fun a=>?_) (fun a=>?_)|refine zqm _ rfl (fun a=>?_) (fun a=>?_))<;>(first|(cases a;done)|((try simp only[z05]at a);try omega)))|refine nxt ?_|refine zqU ?_|(refine b _ ?_;clear b K))
     (simp(disch:=omega)only[go_sem,Z0]);have:v.kids.flatMap nodesV=(v.kids.take i).flatMap nodesV++(nodesV v.kids[i]++(v.kids.drop (i+1)).flatMap nodesV):=by
      rw[<-ZH,List.getElem_cons_drop,<-ZC,ZK]
     rw[this,Y6,q,Y6,s];exact⟨rfl,l⟩
   ·repeat'(first|((refine zqh fun K b=>?_);simp(disch:=omega)only[go_sem,↓reduceIte,d,f])|(refine zqd _ rfl ?_ ?_<;>intro a<;>(((try simp only[z05]at a);try omega)))|refine nxt ?_|refine zqz ?_|refine zqU ?_|(refine b _ ?_;clear b K))
    have U:i=v.kids.length:=by omega
    subst U;rw[ZA]at q;simp(disch:=omega)only[go_sem,Z0];rw[q];exact⟨rfl,l⟩
end
section
open Abs Facts Go.Lib Go.RowKit
namespace Abs
variable {P:Program}
theorem za2{N:Nat}{own:List Nat}{i:Array Oper}{K:St->Prop}{Q:Exit->Act->World->Prop}{z:List Oper}:∀(l:List Oper) (st:St) (s:RS) (a:Act) (w:World),
  (∀o∈l,z6o N o=true)->z2y P own (zrl i) l K st->Fr P N st s a w ->
  (∀e p m k,K e->Fr P N e p m k->Step s w p k->wpList P i Q z m k)->wpList P i Q (l++z) a w
 |[],st,s,a,w,_,h,j,n=>n st s a w h j (Step.refl s w)
 |o::c,st,s,a,w,f,h,j,n=>by
  have y:=f o (by simp);have b:∀v∈c,z6o N v=true:=fun v B=>f v (Za _ B);simp only[z2y]at h;rw[List.cons_append];unfold wpList;rw[zc2]at h;split at h
  ·rename_i u;rw[if_pos (z3n j u)]
   exact .inl (zc1 j y h fun e p m k C r g =>
    za2 c e p m k b C r fun x E A F q t d=>n x E A F q t (g.trans d))
  ·rename_i u;rw[if_neg (by rw[z3n j u];simp)];exact za2 c _ s _ w b h (j.put0 y zc0) n
  ·cases h
theorem zx3{s:RS}:∀(n:Nat) (vs:List Value),vs.length=n->relAll s (ZI n D.any) vs
 |0,vs,h=>by
  have:vs=[]:=ZO h;subst this;exact z15
 |n+1,[],h=>by simp at h
 |n+1,v::vs,h=>by
  rw[List.replicate_succ];exact z0y (by simp[rel]) (zx3 n vs (by simpa using h))
theorem sem_clear{N rid:Nat}{own:List Nat}{l1:List Oper}{ops:Array Oper}{x lo:Operand}{d:Nat}{t e ty ty2:TypeId}{pos pos2:String}{aft aft2:Array Edge}{z:Value}{Q:Exit->St->Prop}{st:St}
  (hops:ops.toList=l1++[⟨some d,.slice t x (some lo) none none,ty,pos,aft,none⟩,⟨none,.call { callee:=.builtin .clear,args := #[.tmp d],argTypes := #[t] },ty2,pos2,aft2,none⟩])
  (hN:∀o∈l1,z6o N o=true) (hd:d<N) (ht:z3g P t=some e) (hsz:z0d P e≠0) (hz:(P.info? e).bind (·.zero)=some z) (hzs:z.cells.size=z0d P e) (hz1:∀v∈z.cells.toList,v.oneCell'=true)
  (h:z2y P own (zrl ops) l1 (fun st1=>∃id n i cs,st1.ev x=.osl id n/\st1.ev lo=.int .i64 (i:Nat)/\st1.H id=some (.row e n cs)/\i<n /\
   Q .normal (({ st1 with H:=z0m st1.H id (some (.row e n (cs.take (i*z0d P e)++ZI ((n-i)*z0d P e) .any))) }:St).put (some d) .any)) st):Sem P N (.region rid ops false) Q st:=by
 intro s0 w0 s a w hf hs;refine wp_region_list ?_;rw[hops];refine za2 l1 st s a w hN h hf ?_;rintro st1 s1 a1 w1 ⟨id,n,i,cs,hx,hlo,hH,hi,hQ⟩ hf1 hs1;have hu:=z2t ht;obtain⟨inf,hinf⟩:=z2g hsz;have hso:=z2e (P:=P) hinf;have hH1:s1.H id=some (.row e n cs):=by rw[hf1.H];exact hH
 have hvx:=hf1.ev x;rw[hx]at hvx;have hvlo:=hf1.ev lo;rw[hlo]at hvlo;simp only[rel]at hvx hvlo;obtain⟨hid,_,hlive⟩:=hvx;have hv:=(hlive _ _ _ hH1).2 rfl;obtain⟨vs,ho,hr,h1,hcl,_⟩:=z3w hf1.heap hH1;have hvl:=ho.1;rcases ho.2 with ⟨_,rfl⟩|⟨g,cap,cur,hκ,_,hg,hnc,hcm,hcs,htake⟩
 ·omega
 rw[hκ]at hv;have hgs:g<w1.heap.size:=by
  rcases Nat.lt_or_ge g w1.heap.size with h9|h9
  ·exact h9
  ·rw[Yn h9]at hg;cases hg
 have hb:=z5h (P:=P) (len:=n) (cap:=cap) (lo:=some (a1.eval lo)) (hi:=none) (l:=(i:Int)) (h:=(n:Nat)) (w:=w1) hnc (.inr ⟨.i64,by rw[hvlo]⟩) (.inl ⟨rfl,rfl⟩) (by omega) (by omega) (by omega);have hci:¬cap=i:=by omega
 have hrun1:(Instr.sliceAt t (a1.eval x) (some (a1.eval lo)) none none).run P w1=.ok (.slice (some ⟨g,i*z0d P e,none⟩) (n-i) (cap-i)) w1:=by
  rw[hv];simp[Instr.sliceAt,Instr.slice,run_underlying hu,hb,hso,hci];simp[Addr.add]
  try exact fun h=>h.symm
 have hzv:∀w,(zeroValue e).run P w=.ok z w:=fun w=>by
  cases hq:P.info? e with
  |none=>rw[hq]at hz;cases hz
  |some i0 =>
   rw[hq]at hz;have hz:i0.zero=some z:=hz;simp[zeroValue,typeInfo,hq,hz]
 have hcap:cur.size=cap*z0d P e:=hcs;have hmul:i*z0d P e+(n-i)*z0d P e=n*z0d P e:=by rw[<-YM];congr 1;omega
 have hmul2:n*z0d P e<=cap*z0d P e:=ZP _ hnc
 have hrun2:∀dc,(Builtin.clear_ #[t] ty2 #[.slice (some ⟨g,i*z0d P e,none⟩) (n-i) dc]).run P w1=.ok (.tuple #[]) (w1.setRow g (cur.toList.take (i*z0d P e)++(Builtin.zeroCells z.cells (n-i)).toList++cur.toList.drop (i*z0d P e+(n-i)*z0d P e)).toArray):=fun dc =>
  zfu (P:=P) w1 t e ty2 z (z0d P e) g (i*z0d P e) (n-i) dc cur hu hzv hzs hz1 (by omega) hg (by omega)
 unfold wpList;have hw1:Region.wanted (⟨some d,.slice t x (some lo) none none,ty,pos,aft,none⟩:Oper) (yielded ops a1.tmps)=true:=by simp[Region.wanted]
 rw[if_pos hw1];refine .inl ?_;unfold Oper.wp;have he1:(execOp a1.eval ⟨some d,.slice t x (some lo) none none,ty,pos,aft,none⟩).run P w1=.ok (.value (.slice (some ⟨g,i*z0d P e,none⟩) (n-i) (cap-i))) w1:=by
  unfold execOp;simp[hrun1]
 rw[he1,Oper.upon_value];have hsz1:d<a1.tmps.size:=by rw[hf1.size];exact hd
 have hdv:(a1.put (some d) (.slice (some ⟨g,i*z0d P e,none⟩) (n-i) (cap-i))).eval (.tmp d)=.slice (some ⟨g,i*z0d P e,none⟩) (n-i) (cap-i):=by
  simp[Act.put,Act.eval,YP,hsz1]
 refine za6 _ rfl _ _ rfl _ hdv (hrun2 _) ?_;unfold wpList;have hzl:(Builtin.zeroCells z.cells (n-i)).toList.length=(n-i)*z0d P e:=by rw[Zv,size_zeroCells,hzs]
 obtain⟨zs,hzs2,hzl2⟩:∃zs,zs=(Builtin.zeroCells z.cells (n-i)).toList/\zs.length=(n-i)*z0d P e:=⟨_,rfl,hzl⟩
 have hz1':z7a zs:=by
  intro v hv';rw[hzs2]at hv';simp only[Builtin.zeroCells,Array.toList_map,Array.toList_range,Z6,List.mem_range]at hv';obtain⟨k,hk,rfl⟩:=hv';have h0:0<z.cells.size:=by omega
  have hkm:=Nat.mod_lt k h0;rw[getElem!_pos z.cells _ hkm];exact hz1 _ (by simp)
 rw[<-hzs2];have hcl2:cur.toList.take (i*z0d P e)=vs.take (i*z0d P e):=by
  rw[<-htake,YE];congr 1;omega
 have hnew:∀(s':RS),relAll s' cs vs->relAll s' (cs.take (i*z0d P e)++ZI ((n-i)*z0d P e) .any) (vs.take (i*z0d P e)++zs):=fun s' hr' =>
  z17 (z4k _ hr') (zx3 _ _ hzl2)
 have hbk:blockOf (s1.κ id)=some g:=by rw[hκ];rfl
 obtain⟨g1,g2⟩:=z90 (w':=w1.setRow g (cur.toList.take (i*z0d P e)++zs++cur.toList.drop (i*z0d P e+(n-i)*z0d P e)).toArray) hf1.heap id (.row e n cs) (.row e n (cs.take (i*z0d P e)++ZI ((n-i)*z0d P e) .any)) (s1.κ id) hH1 rfl rfl rfl (by simp[World.setRow])
  (fun k hk hne=>by
   simp only[World.setRow,Zu]
   rw[if_neg (fun h=>hne (by rw[hbk,h]))])
  (.inr ⟨n,_,rfl,Zd _,fun _=>rfl⟩) (fun b hb=>.inl hb)
  (fun hl=>⟨vs.take (i*z0d P e)++zs,⟨by rw[Z3,Zm,hzl2];omega,.inr ⟨g,cap,(cur.toList.take (i*z0d P e)++zs++cur.toList.drop (i*z0d P e+(n-i)*z0d P e)).toArray,hκ,Ya _,by
    simp[World.setRow,Zu,hg],hnc,hcm,by
    rw[ZJ,Z3,Z3,Zm,hzl2,Zp,Zv];omega,by
    have hll:(cur.toList.take (i*z0d P e)++zs).length=n*z0d P e:=by rw[Z3,Zm,hzl2,Zv];omega
    rw[<-hcl2];show Y9 _ (cur.toList.take (i*z0d P e)++zs++cur.toList.drop (i*z0d P e+(n-i)*z0d P e))=_
    exact ZX hll⟩⟩,hnew _ (relAll.later hl _ _ hr),z32 (z91 h1 _) hz1'⟩)
 refine⟨_,_,hQ,?_,hs.trans (hs1.trans g1)⟩;have hp:=hf1.put (o:=⟨some d,.slice t x (some lo) none none,ty,pos,aft,none⟩) g1.later g2 (by simp only[z6o,decide_eq_true_eq];exact hd) (d:=.any) (v:=.slice (some ⟨g,i*z0d P e,none⟩) (n-i) (cap-i)) (by simp[rel]) (H:=z0m st1.H id (some (.row e n (cs.take (i*z0d P e)++ZI ((n-i)*z0d P e) .any)))) (nx:=st1.nx) (by simp only[RS.set,hf1.H]) (by simp only[RS.set,hf1.nx]);exact hp
theorem sem_isnil{N rid:Nat}{own:List Nat}{l1:List Oper}{ops:Array Oper}{x:Operand}{d:Nat}{t e ty ty2:TypeId}{pos:String}{aft:Array Edge}{Q:Exit->St->Prop}{st:St}
  (hops:ops.toList=l1++[⟨some d,.binOp .eql t x (.const (.slice none 0 0)) ty2,ty,pos,aft,none⟩])
  (hN:∀o∈l1,z6o N o=true) (hd:d<N) (ht:z3g P t=some e)
  (h:z2y P own (zrl ops) l1 (fun st1=>∃id n cs,st1.ev x=.osl id n/\st1.H id=some (.row e n cs)/\Q .normal (st1.put (some d) (.bool false))/\(n=0->Q .normal (st1.put (some d) (.bool true)))) st):Sem P N (.region rid ops false) Q st:=by
 intro s0 w0 s a w hf hs;refine wp_region_list ?_;rw[hops];refine za2 l1 st s a w hN h hf ?_;rintro st1 s1 a1 w1 ⟨id,n,cs,hx,hH,hQf,hQt⟩ hf1 hs1;have hu:=z2t ht;have hH1:s1.H id=some (.row e n cs):=by rw[hf1.H];exact hH
 have hvx:=hf1.ev x;rw[hx]at hvx;simp only[rel]at hvx;obtain⟨hid,_,hlive⟩:=hvx;have hv:=(hlive _ _ _ hH1).2 rfl;obtain⟨vs,ho,hr,h1,hcl,_⟩:=z3w hf1.heap hH1;obtain⟨ad,m,c,hsl,hb⟩:∃ad m c,a1.eval x=.slice ad m c/\(ad.isNone=true->n=0):=by
  rcases ho.2 with ⟨h0,e1⟩|⟨g,cap,cur,hκ,_⟩
  ·exact⟨none,0,0,by rw[hv,h0],fun _=>e1⟩
  ·exact⟨_,_,_,by rw[hv,hκ],fun h=>by cases h⟩
 have hcv:a1.eval (.const (.slice none 0 0))=.slice none 0 0:=rfl;have hbin:(binOp .eql t (.slice ad m c) (.slice none 0 0)).run P w1=.ok (.bool ad.isNone) w1:=z9n (zaa hu ad m c w1) (by simp) (by simp) (by simp) (by simp);unfold wpList;have hw1:Region.wanted (⟨some d,.binOp .eql t x (.const (.slice none 0 0)) ty2,ty,pos,aft,none⟩:Oper) (yielded ops a1.tmps)=true:=by simp[Region.wanted]
 rw[if_pos hw1];refine .inl ?_;unfold Oper.wp;have he1:(execOp a1.eval ⟨some d,.binOp .eql t x (.const (.slice none 0 0)) ty2,ty,pos,aft,none⟩).run P w1=.ok (.value (.bool ad.isNone)) w1:=by
  unfold execOp;simp[hsl,hcv,z53,hbin]
 rw[he1,Oper.upon_value];unfold wpList;have hp:=hf1.put0 (o:=⟨some d,.binOp .eql t x (.const (.slice none 0 0)) ty2,ty,pos,aft,none⟩) (by simp only[z6o,decide_eq_true_eq];exact hd) (d:=.bool ad.isNone) (v:=.bool ad.isNone) (by simp[rel]);refine⟨_,_,?_,hp,hs.trans hs1⟩;cases ha:ad.isNone with
 |true=>exact hQt (hb ha)
 |false=>exact hQf
theorem zzk{N rid:Nat}{own:List Nat}{l1:List Oper}{ops:Array Oper}{x hiO:Operand}{d d2:Nat}{t e ty ty2:TypeId}{pos pos2:String}{aft aft2:Array Edge}{Q:Exit->St->Prop}{st:St}
  (hops:ops.toList=l1++[⟨some d,.slice t x none (some hiO) none,ty,pos,aft,none⟩,⟨some d2,.assign (.tmp d),ty2,pos2,aft2,none⟩])
  (hN:∀o∈l1,z6o N o=true) (hd:d<N) (hd2:d2<N) (ht:z3g P t=some e) (hsz:z0d P e≠0)
  (h:z2y P own (zrl ops) l1 (fun st1=>∃id n i cs,st1.ev x=.osl id n/\st1.ev hiO=.int .i64 (i:Nat)/\st1.H id=some (.row e n cs)/\i<=n/\0<n /\
   Q .normal ((({ st1 with H:=z0m (z0m st1.H id none) st1.nx (some (.row e i (cs.take (i*z0d P e)))),nx:=st1.nx+1 }:St).put (some d) (.osl st1.nx i)).put (some d2) (.osl st1.nx i))) st):Sem P N (.region rid ops false) Q st:=by
 intro s0 w0 s a w hf hs;refine wp_region_list ?_;rw[hops];refine za2 l1 st s a w hN h hf ?_;rintro st1 s1 a1 w1 ⟨id,n,i,cs,hx,hhi,hH,hi,hn,hQ⟩ hf1 hs1;have hu:=z2t ht;obtain⟨inf,hinf⟩:=z2g hsz;have hso:=z2e (P:=P) hinf;have hH1:s1.H id=some (.row e n cs):=by rw[hf1.H];exact hH
 have hvx:=hf1.ev x;rw[hx]at hvx;have hvhi:=hf1.ev hiO;rw[hhi]at hvhi;simp only[rel]at hvx hvhi;obtain⟨hid,_,hlive⟩:=hvx;have hv:=(hlive _ _ _ hH1).2 rfl;obtain⟨vs,ho,hr,h1,hcl,_⟩:=z3w hf1.heap hH1;have hvl:=ho.1;rcases ho.2 with ⟨_,h0⟩|⟨g,cap,cur,hκ,_,hg,hnc,hcm,hcs,htake⟩
 ·omega
 rw[hκ]at hv;have hb:=z5h (P:=P) (len:=n) (cap:=cap) (lo:=none) (hi:=some (a1.eval hiO)) (l:=0) (h:=(i:Nat)) (w:=w1) hnc (.inl ⟨rfl,rfl⟩) (.inr ⟨.i64,by rw[hvhi]⟩) (by omega) (by omega) (by omega);have hrun1:(Instr.sliceAt t (a1.eval x) none (some (a1.eval hiO)) none).run P w1=.ok (.slice (some ⟨g,0,none⟩) i cap) w1:=by
  rw[hv];simp[Instr.sliceAt,Instr.slice,run_underlying hu,hb,hso];exact fun _=>by simp[Addr.add]
 let v':Value:=.slice (some ⟨g,0,none⟩) i cap
 unfold wpList;have hw1:Region.wanted (⟨some d,.slice t x none (some hiO) none,ty,pos,aft,none⟩:Oper) (yielded ops a1.tmps)=true:=by simp[Region.wanted]
 rw[if_pos hw1];refine .inl ?_;unfold Oper.wp;have he1:(execOp a1.eval ⟨some d,.slice t x none (some hiO) none,ty,pos,aft,none⟩).run P w1=.ok (.value v') w1:=by
  unfold execOp;simp[hrun1]
  rfl
 rw[he1,Oper.upon_value];have hsz1:d<a1.tmps.size:=by rw[hf1.size];exact hd
 have hdv:(a1.put (some d) v').eval (.tmp d)=v':=by
  simp[Act.put,Act.eval,YP,hsz1]
 have hbk:blockOf (s1.κ id)=some g:=by rw[hκ];rfl
 obtain⟨g1,g2⟩:=zx4 (w':=w1) hf1.heap id (.row e i (cs.take (i*z0d P e))) v' hH1 rfl rfl rfl (Zd _) (fun _ _ _=>rfl) (fun b hb=>.inl (by rw[hbk];exact hb))
  (fun hl=>⟨vs.take (i*z0d P e),⟨by rw[Zm,YB];rw[hvl];exact ZP _ hi,.inr ⟨g,cap,cur,rfl,Ya _,hg,by omega,hcm,hcs,by
   rw[<-htake,YE,YB];exact ZP _ hi⟩⟩,z4k _ (relAll.later hl _ _ hr),z91 h1 _⟩)
 have hrelv:rel (mvS s1 id v' (.row e i (cs.take (i*z0d P e)))) (.osl s1.nx i) v':=by
  simp only[rel];refine⟨Yy _,⟨_,_,rfl⟩,fun e2 k2 cs2 hH2=>?_⟩;simp only[mvS,z0m,if_true,Zz,HObj.row.injEq]at hH2;obtain⟨_,rfl,_⟩:=hH2;exact⟨Zd _,fun _=>by simp[mvS]⟩
 have hp:=hf1.put (o:=⟨some d,.slice t x none (some hiO) none,ty,pos,aft,none⟩) g1.later g2 (by simp only[z6o,decide_eq_true_eq];exact hd) (d:=.osl s1.nx i) (v:=v') hrelv (H:=z0m (z0m st1.H id none) st1.nx (some (.row e i (cs.take (i*z0d P e))))) (nx:=st1.nx+1) (by simp only[mvS,hf1.H,hf1.nx]) (by simp only[mvS,hf1.nx]);have hp2:=hp.put0 (o:=⟨some d2,.assign (.tmp d),ty2,pos2,aft2,none⟩) (by simp only[z6o,decide_eq_true_eq];exact hd2) (d:=.osl s1.nx i) (v:=v') hrelv;unfold wpList;have hw2:Region.wanted (⟨some d2,.assign (.tmp d),ty2,pos2,aft2,none⟩:Oper) (yielded ops (a1.put (some d) v').tmps)=true:=by simp[Region.wanted]
 rw[if_pos hw2];refine .inl ?_;unfold Oper.wp;have he2:(execOp (a1.put (some d) v').eval ⟨some d2,.assign (.tmp d),ty2,pos2,aft2,none⟩).run P w1=.ok (.value v') w1:=by
  unfold execOp;simp[hdv]
 rw[he2,Oper.upon_value];unfold wpList;rw[hf1.nx]at hp2;exact⟨_,_,hQ,hp2,hs.trans (hs1.trans g1)⟩
end Abs
end
section
open Abs Facts Go.Lib Go.Shelf Go.RowKit
set_option maxHeartbeats 4000000 in
theorem ins_endN{w:World}{v:Value}{n m:Nat}{a:Addr}{c:Nat}{cap:Nat}{b:Option Addr}(j:0<m)(f:v=.slice b n cap)(v':Value)(w':World)
  (d:∀h,(Builtin.append_ #[115,115] h #[v,.slice (some a) m c]).run prog w=.ok v' w') :
  Calls prog 99 #[v,.int .i64 n,.slice (some a) m c] w fun e i=>e=.returned v'/\i=w':=by
 subst f;have g:¬((m:Int)=0):=by omega
 go_enter func99,ntmps99
 go_wp2_with (at_builtin;refine Lib.wpList_append_run _ rfl _ _ _ _ rfl _ _ rfl rfl _ _ (d _) ?_)
 all_goals (go_ret;exact⟨rfl,rfl⟩)
set_option maxHeartbeats 4000000 in
theorem zxh{w:World}{g n cap i m vc:Nat}{va:Addr}{cur:Array Value}{A B R vs:List Value}(hi:i<n)(hm:0<m)(L:n+m<=cap)(X:cap<=9223372036854775807)
  (q:w.heap[g]?=some (.cells cur 70 (0,0))) (b:cur.toList=A++B++R) (y:A.length=i) (r:B.length=(n-i)) (Z:m<=R.length)
  (x:va.block≠g) (l:vs.length=m) (O:∀j v,vs[j]?=some v->w.cell? (va.add j)=some v) (E:∀v∈B,v.oneCell'=true) (F:∀v∈vs,v.oneCell'=true)
  (Y:TypeId) (Q:Nat) (M:w.shape? va.block=some (Y,Q)) (J:Q≠0) :
  Calls prog 99 #[.slice (some ⟨g,0,none⟩) n cap,.int .i64 i,.slice (some va) m vc] w fun e w2=>e=.returned (.slice (some ⟨g,0,none⟩) (n+m) cap)/\w2=w.drew.setRow g (A++vs++B++R.drop (m)).toArray:=by
 have a7:¬((m:Int)=0):=by omega
 have a8:¬((i:Int)=(n:Int)):=by omega
 have o:prog.underlying 115=some (.slice 70):=rfl;have u:(prog.info? 70).map (·.size)=some 1:=rfl;have a6:IntKind.i64.wrap ((i:Int)+(m:Int))=(i:Int)+(m:Int):=by rw[IntKind.wrap_i64];omega
 have a0:(0:Int)<=(i:Int)+(m:Int):=by omega
 have a4:i<=n:=by omega
 have a5:((i:Int)+(m:Int)).toNat=i+m:=by omega
 have a1:¬(cap=i+m):=by omega
 have a2:(i:Int)<=(n:Int)+(m:Int):=by omega
 have a3:¬(cap=i):=by omega
 have N:cur.size=i+(n-i)+R.length:=by rw[<-Zv,b,Z3,Z3,y,r]
 have K:∀U C,(callFunc 170 #[.slice (some va) m vc,.slice (some ⟨g,(i+m),none⟩) U C]).run prog w=.ok (.value (.bool false)) w:=fun U C=>by
  rw[run_callFunc_extern func170 (by kernel_rfl) (by kernel_rfl) (by kernel_rfl) (e:=Extern.SlicesOverlaps.overlaps #[115,115] #[4]) (by kernel_rfl),
   zb5 w 115 4 70 o 1 (fun _=>rfl) va ⟨g,(i+m),none⟩ m vc U C x Y 70 Q cur.size M (by simp[World.shape?,q]) J (by simp[World.frozen?,q]) (by simp[World.frozen?,q])]
  rfl
 have d:∀p f W,(Builtin.copy_ #[115,115] p #[.slice (some ⟨g,(i+m),none⟩) (n+m-(i+m)) f,.slice (some ⟨g,i,none⟩) (n+m-i) W]).run prog w.drew=.ok (goInt (Yw (n+m-i) (n+m-(i+m)))) (w.drew.setRow g ((A++B++R).take (i+m)++B++(A++B++R).drop (i+m+(n-i))).toArray):=fun p f W=>by
  have h:=z47 (P:=prog) w.drew 115 115 p 70 1 g ((i+m)) (n+m-(i+m)) f cur ⟨g,i,none⟩ (n+m-i) W B o u (by rw[r];simp only[ZF,Yb];split<;>omega)
   (fun j v z=>by
    rw[Addr.add_lit];show w.cell? _=_;have:cur.toList[i+j]?=some v:=by rw[b,Y7,Yg (by omega),y,Yl,Yi ((Yj.1 z).1)];exact z
    simp only[World.cell?,q]
    simpa using this) q (by omega) E
  rw[b,r]at h;exact h
 obtain⟨a,c⟩:∃a,a=(A++B++R).take (i+m)++B++(A++B++R).drop (i+m+(n-i)):=⟨_,rfl⟩
 rw[<-c]at d;have t:(w.drew.setRow g a.toArray).heap[g]?=some (.cells a.toArray 70 (0,0)):=by
  have I:w.drew.heap[g]?=some (.cells cur 70 (0,0)):=q;simp[World.setRow,Zu,I]
 have H:a.length=cur.size:=by
  rw[c,Z3,Z3,Zm,Zp,Z3,Z3,y,r,N];omega
 have s:∀p f,(Builtin.copy_ #[115,115] p #[.slice (some ⟨g,i,none⟩) (n+m-i) f,.slice (some va) m vc]).run prog (w.drew.setRow g a.toArray)=.ok (goInt (Yw m (n+m-i))) (w.drew.setRow g (A++vs++B++R.drop (m)).toArray):=fun p f=>by
  have h:=z47 (P:=prog) (w.drew.setRow g a.toArray) 115 115 p 70 1 g (i) (n+m-i) f a.toArray va m vc vs o u (by rw[l];simp only[ZF,Yb];split<;>omega)
   (fun j v z=>by
    rw[World.cell?_of_block (w:=w)]
    ·exact O j v z
    ·show (w.drew.setRow g a.toArray).heap[(va.add j).block]?=_;have:(va.add j).block=va.block:=by unfold Addr.add;split<;>rfl
     rw[this];simp only[World.setRow,Zu];rw[if_neg (fun h=>x h.symm)]
     rfl) t (by simp;omega) F
  have G:=zmw (α:=Value) (A:=A) (B:=B) (R:=R) (vs:=vs) (i:=i) (k:=(n-i)) (m:=m) y r l Z;simp only at G;rw[<-c]at G;rw[l,show a.toArray.toList=a from rfl,G,zaw]at h;exact h
 clear c t H;have z5x:prog.follows .mixedOrders=true:=by kernel_rfl
 go_enter func99,ntmps99
 go_wp2_with (simp only[K])
 go_region_law_o (refine step_copy_runI rfl _ _ 115 115 rfl _ _ (by simp[Act.eval,Act.put]) (by simp[Act.eval,Act.put]) (d _ _ _) ?_)
 go_wp2_with (at_builtin;refine wpList_copy_runI _ rfl _ _ 115 115 rfl _ _ rfl rfl (s _ _) ?_)
 all_goals (go_ret;exact⟨rfl,by simp only[Y7]⟩)
def GrewToN(w:World)(k:Nat)(xs:List Value)(e:Ending)(a:World):Prop :=
 ∃G Y,e=.returned (.slice (some ⟨w.heap.size,0,none⟩) k G)/\k<=G/\G<=maxLen/\Y.length=(G-k) /\
  a.heap=w.heap.push (.cells (xs++Y).toArray 70 (0,0))/\a.os=w.os/\a.tape=w.tape/\a.output=w.output
set_option maxHeartbeats 4000000 in
theorem ins_growN{w:World}{g n cap i m vc:Nat}{va:Addr}{A B vs:List Value}(hi:i<n)(hm:0<m)(hnc:n<=cap)(hroom:cap<n+m)(hbig:(n+m)*z2l prog 70<=140737488355328)(h63:n+m<=maxLen)
  (hA:A.length=i) (hB:B.length=(n-i)) (hcs:∀j v,(A++B)[j]?=some v->w.cell? ⟨g,j,none⟩=some v)
  (hvl:vs.length=m) (hvs:∀j v,vs[j]?=some v->w.cell? (va.add j)=some v) (h1c:∀v∈B,v.oneCell'=true) (h1v:∀v∈vs,v.oneCell'=true) :
  Calls prog 99 #[.slice (some ⟨g,0,none⟩) n cap,.int .i64 i,.slice (some va) m vc] w (GrewToN w (n+m) (A++vs++B)):=by
 have hz1:¬((m:Int)=0):=by omega
 have hz2:¬((i:Int)=(n:Int)):=by omega
 have hz3:(cap:Int)<(n:Int)+(m:Int):=by omega
 have t25:prog.underlying 115=some (.slice 70):=rfl;have t3:prog.underlying 3=some (.int .i64):=rfl;have hsz:(prog.info? 70).map (·.size)=some 1:=rfl;obtain⟨i0,z,hi0,hz0,hzs⟩:=z52 (P:=prog) (t:=70) (by kernel_rfl);have hi8:i0.size=1:=by rw[hi0]at hsz;simpa using hsz
 have hzs8:z.cells.size=1:=by rw[hzs];exact z8r
 have hby:i0.bytes=z2l prog 70:=by simp[z2l,hi0]
 have hik:i+(n+m-i)=n+m:=by omega
 have hAv:∀j v,A[j]?=some v->w.cell? ⟨g,j,none⟩=some v:=fun j v h=>hcs j v (by rw[Yi ((Yj.1 h).1)];exact h);have hBv:∀j v,B[j]?=some v->w.cell? ⟨g,i+j,none⟩=some v:=fun j v h=>hcs _ v (by rw[Yg (by omega),hA,Yl];exact h);have hbw:g<w.heap.size:=by
  have h0:0<B.length:=by rw[hB];omega
  exact block_lt_of_cell (hBv 0 _ (Ze h0))
 have hvw:va.block<w.heap.size:=by
  have h0:0<vs.length:=by rw[hvl];omega
  have:=block_lt_of_cell (hvs 0 _ (Ze h0));have h2:(va.add 0).block=va.block:=by unfold Addr.add;split<;>rfl
  rwa [h2]at this
 have hold:(Builtin.firstCells i0.size i (.slice (some ⟨g,0,none⟩) i cap)).run prog w.drew=.ok A.toArray w.drew:=by
  rw[hi8];exact run_firstCells_some w.drew 1 i ⟨g,0,none⟩ i cap A (by rw[hA,ZF]) (fun j v hj=>by rw[Addr.add_lit,Yo];exact hAv j v hj)
 obtain⟨G,hG⟩:∃G,G=grownCap w (n+m) cap 70:=⟨_,rfl⟩
 obtain⟨Z,hZ⟩:∃Z,Z=(Builtin.zeroCells z.cells (n+m-i)++Builtin.zeroCells z.cells (G-(n+m))).toList:=⟨_,rfl⟩
 have hGn:n+m<=G:=by rw[hG];exact grownCap_ge w _ _ _
 have hG63:G<=maxLen:=by rw[hG];exact grownCap_le_maxLen w (n+m) cap 70 h63
 have hZl:Z.length=(G-i):=by
  rw[hZ,Zv,Array.size_append,size_zeroCells,size_zeroCells,hzs8,<-YM];congr 1;omega
 have hrz:∀ty,(Builtin.append_ #[115,3] ty #[.slice (some ⟨g,0,none⟩) i cap,.int .i64 ((n:Int)+(m:Int)-(i:Int))]).run prog w =
   .ok (.slice (some ⟨w.heap.size,0,none⟩) (n+m) G) (w.drew.alloc (.cells (A++Z).toArray 70)):=fun ty=>by
  have h:=Lib.run_append_grow_zeros (P:=prog) w 115 3 ty 70 i0 z .i64 .i64 t25 t3 hi0 hz0 (some ⟨g,0,none⟩) i cap A hold (n+m-i) (by omega) (by omega) (by omega) (by simp only[maxLen]at h63;omega)
   (by rw[hby];have:=ZP (z2l prog 70) (show n+m-i<=n+m by omega);omega) (by rw[hby,hik];exact growslice_fits hroom hbig)
  rw[hik,<-hG]at h;rw[show (n:Int)+(m:Int)-(i:Int)=((n+m-i:Nat):Int) by omega,h,hZ]
  congr 3
  apply Array.ext';simp
 obtain⟨W1,hW1⟩:∃W1,W1=w.drew.alloc (.cells (A++Z).toArray 70):=⟨_,rfl⟩
 have hheap:W1.heap=w.heap.push (.cells (A++Z).toArray 70 (0,0)):=by rw[hW1];rfl
 have hOb:∀(W:World) (x:List Value) (j:Nat) (b:Nat) (v:Value),W.heap=w.heap.push (.cells x.toArray 70 (0,0))->b<w.heap.size->∀sp,w.cell? ⟨b,j,sp⟩=some v->W.cell? ⟨b,j,sp⟩=some v:=fun W x j b v hW hb sp h=>by
  rw[World.cell?_of_block (w:=w)]
  ·exact h
  ·show W.heap[b]?=_;rw[hW,ZD,if_neg (by omega)]
 obtain⟨c1,hc1⟩:∃c1,c1=(A++Z).take (i)++vs++(A++Z).drop (i+m):=⟨_,rfl⟩
 have hcl:c1.length=A.length+Z.length:=by
  rw[hc1,Z3,Z3,Zm,Zp,Z3,hA,hvl,hZl];omega
 obtain⟨Y,hY⟩:∃Y,Y=Z.drop (m+(n-i)):=⟨_,rfl⟩
 have hYl:Y.length=(G-(n+m)):=by rw[hY,Zp,hZl];omega
 have hrow:∀(W:World) (x y:List Value),W.heap=w.heap.push (.cells x.toArray 70 (0,0))->(W.setRow w.heap.size y.toArray).heap=w.heap.push (.cells y.toArray 70 (0,0)):=fun W x y hW=>by
  unfold World.setRow;simp only;rw[hW,zkp]
 have hcpA:∀(W:World),W.heap=W1.heap->∀ty dc,(Builtin.copy_ #[115,115] ty #[.slice (some ⟨w.heap.size,i,none⟩) (n+m-i) dc,.slice (some va) m vc]).run prog W=.ok (goInt (Yw m (n+m-i))) (W.setRow w.heap.size c1.toArray):=fun W hW ty dc=>by
  rw[hheap]at hW;have hgW:W.heap[w.heap.size]?=some (.cells (A++Z).toArray 70 (0,0)):=by rw[hW,ZD,if_pos rfl]
  have h:=z47 (P:=prog) W 115 115 ty 70 1 w.heap.size (i) (n+m-i) dc (A++Z).toArray va m vc vs t25 hsz (by rw[hvl];simp only[ZF,Yb];split<;>omega)
   (fun j v hj=>by
    have:=hvs j v hj;unfold Addr.add at this⊢
    split at this<;>rename_i hsp<;>simp only[hsp]<;>exact hOb W _ _ _ _ hW hvw _ this) hgW (by rw[ZJ,Z3,hA,hvl,hZl];omega) h1v
  rw[hvl]at h;rw[hc1];exact h
 have hcpB:∀(W:World),W.heap=(W1.setRow w.heap.size c1.toArray).heap->∀ty dc sc,(Builtin.copy_ #[115,115] ty #[.slice (some ⟨w.heap.size,(i+m),none⟩) (n+m-(i+m)) dc,.slice (some ⟨g,i,none⟩) (n-i) sc]).run prog W=.ok (goInt (Yw (n-i) (n+m-(i+m)))) (W.setRow w.heap.size (A++vs++B++Y).toArray):=fun W hW ty dc sc=>by
  rw[hrow W1 _ _ hheap]at hW;have hgW:W.heap[w.heap.size]?=some (.cells c1.toArray 70 (0,0)):=by rw[hW,ZD,if_pos rfl]
  have h:=z47 (P:=prog) W 115 115 ty 70 1 w.heap.size ((i+m)) (n+m-(i+m)) dc c1.toArray ⟨g,i,none⟩ (n-i) sc B t25 hsz (by rw[hB];simp only[ZF,Yb];split<;>omega)
   (fun j v hj=>by rw[Addr.add_lit];exact hOb W _ _ _ _ hW hbw _ (hBv j v hj)) hgW (by rw[ZJ,hcl,hA,hB,hZl];omega) h1c
  have h2:=zsm (α:=Value) (A:=A) (B:=B) (Z:=Z) (vs:=vs) (i:=i) (k:=(n-i)) (m:=m) hA hB hvl (by rw[hZl];omega);simp only at h2;rw[<-hc1,<-hY]at h2;rw[hB,show c1.toArray.toList=c1 from rfl,h2]at h;exact h
 have hfin:∀(W:World),W.heap=(W1.setRow w.heap.size c1.toArray).heap->(W.setRow w.heap.size (A++vs++B++Y).toArray).heap=w.heap.push (.cells (A++vs++B++Y).toArray 70 (0,0)):=fun W hW=>hrow W c1 _ (hW.trans (hrow W1 _ _ hheap));have hGi:¬(G=i):=by omega
 have hGim:¬(G=i+m):=by omega
 have hci:¬(cap=i):=by omega
 have hw1:IntKind.i64.wrap ((i:Int)+(m:Int))=(i:Int)+(m:Int):=by simp only[maxLen]at h63;rw[IntKind.wrap_i64];omega
 have h63b:n+m<=9223372036854775807:=h63;have hG63b:G<=9223372036854775807:=hG63;have hb1:(0:Int)<=(i:Int)+(m:Int):=by omega
 have hin:i<=n:=by omega
 have htn:((i:Int)+(m:Int)).toNat=i+m:=by omega
 have hb3:(i:Int)<=(n:Int):=by omega
 have z5x:prog.follows .mixedOrders=true:=by kernel_rfl
 have hfinal:∀(W:World),W.heap=(W1.setRow w.heap.size c1.toArray).heap->W.os=w.os->W.tape=w.tape->W.output=w.output->GrewToN w (n+m) (A++vs++B) (.returned (.slice (some ⟨w.heap.size,0,none⟩) (n+m) G)) (W.setRow w.heap.size (A++vs++B++Y).toArray):=fun W hW h1 h2 h3=>⟨G,Y,rfl,hGn,hG63,hYl,hfin W hW,h1,h2,h3⟩
 clear hfin;subst hW1;obtain⟨r0,hr0⟩:∃r0:Array Value,r0=(A++Z).toArray:=⟨_,rfl⟩
 obtain⟨r1,hr1⟩:∃r1:Array Value,r1=c1.toArray:=⟨_,rfl⟩
 obtain⟨r2,hr2⟩:∃r2:Array Value,r2=(A++vs++B++Y).toArray:=⟨_,rfl⟩
 simp only[<-hr0,<-hr1,<-hr2]at *;clear hcs h63 hG63 hik hold hG hZ hZl hc1 hY hrow hheap hOb hAv hBv hcl hr0 hr1 hr2 hvs;have hE:((w.alloc (.cells r0 70)).drew).heap=(w.drew.alloc (.cells r0 70)).heap:=rfl;have hF:(((w.alloc (.cells r0 70)).drew.setRow w.heap.size r1).drew).heap=((w.drew.alloc (.cells r0 70)).setRow w.heap.size r1).heap:=rfl
 go_enter func99,ntmps99
 go_wp2_with (first
  |(at_builtin;refine Lib.wpList_append_run _ rfl _ _ _ _ rfl _ _ rfl rfl _ _ (hrz _) ?_)
  |(at_builtin;refine wpList_copy_runI _ rfl _ _ 115 115 rfl _ _ rfl rfl (hcpA _ hE _ _) ?_))
 go_region_law_o (refine step_copy_runI rfl _ _ 115 115 rfl (.slice (some ⟨w.heap.size,(i+m),none⟩) (n+m-(i+m)) (G-(i+m))) (.slice (some ⟨g,i,none⟩) (n-i) (cap-i)) (by simp[Act.eval,Act.put]) (by simp[Act.eval,Act.put]) (hcpB _ hF _ _ _) ?_)
 go_wp2
 all_goals (go_ret;first|exact hfinal _ hF rfl rfl rfl|(simp only[Y7]at hfinal⊢;exact hfinal _ hF rfl rfl rfl))
set_option maxHeartbeats 1000000 in
theorem zsz{w:World}{v:Value}{n i m vc:Nat}{va:Addr}{xs vs:List Value}(hi:i<=n)(hm:0<m)(f:w.ownsRow 0 70 1 v n xs)(M:z7a xs)
  (z:(n+m)*z2l prog 70<=140737488355328) (F:n+m<=maxLen) (a6:v.ownBlock≠some va.block)
  (d:vs.length=m) (s:∀j u,vs[j]?=some u->w.cell? (va.add j)=some u) (C:z7a vs) :
  Calls prog 99 #[v,.int .i64 i,.slice (some va) m vc] w fun e O=>∃E,e=.returned E/\O.ownsRow 0 70 1 E (n+m) (xs.take (i)++vs++xs.drop (i))/\w.grownBy O v.ownBlock /\
   (∀b,blockOf E=some b->blockOf v=some b \/ w.heap.size<=b):=by
 have N:=f.1;obtain⟨tA,W,a5,a3⟩:∃tA W,w.shape? va.block=some (tA,W)/\W≠0:=by
  have h0:0<vs.length:=by rw[d];omega
  have r:=s 0 _ (Ze h0);have X:(va.add 0).block=va.block:=by unfold Addr.add;split<;>rfl
  unfold World.cell? at r;rw[X]at r;unfold World.shape?;split at r
  ·rename_i c t fz U;refine⟨t,c.size,rfl,fun h3=>?_⟩;split at r
   ·cases r
   ·rw[Yn (by omega)]at r;cases r
  ·cases r
 by_cases a2:i=n
 ·subst a2;obtain⟨E,O,hr,o,Q,a0,_⟩:=z5z (P:=prog) (ty:=0) (t:=115) (e:=70) rfl (by rw[z8r];omega) (by kernel_rfl) (v:=v) (n:=i) (m:=m) (xs:=xs) (vs:=vs) (by rw[z8r];exact f) z F (.inr ⟨va,vc,rfl,C,by rw[z8r,ZF];exact d,s⟩);rw[z8r]at o;obtain⟨a,c,a7⟩:=z7f f;refine(ins_endN (v':=E) (w':=O) hm a7 (fun ty=>hr)).mono ?_;rintro e w2 ⟨rfl,rfl⟩;refine⟨E,rfl,?_,Q,a0⟩;rw[Ym (by omega),List.drop_of_length_le (by omega),Yf];exact o
 ·rcases f.2 with ⟨rfl,rfl⟩|⟨g,cap,l,rfl,_,Q,a4,J,K,q⟩
  ·omega
  ·rw[ZF]at K q;have x:(xs.take (i)).length=i:=by rw[Zm,N];omega
   have y:(xs.drop (i)).length=(n-i):=by rw[Zp,N];omega
   have I:l.toList.length=cap:=by rw[Zv];exact K
   by_cases p:n+m<=cap
   ·refine(zxh (w:=w) (g:=g) (n:=n) (cap:=cap) (i:=i) (m:=m) (vc:=vc) (va:=va) (cur:=l) (A:=xs.take (i)) (B:=xs.drop (i)) (R:=l.toList.drop (n)) (vs:=vs) (by omega) hm p (by simp only[maxLen]at J;omega) Q
     (by rw[ZK,<-q,ZK]) x y (by rw[Zp,I];omega) (fun h=>a6 (by rw[Value.ownBlock,h])) d s (fun u hu=>M u (Zq hu)) C tA W a5 a3).mono ?_
    rintro e w2 ⟨rfl,rfl⟩;refine⟨_,rfl,⟨?_,.inr ⟨g,cap,(xs.take (i)++vs++xs.drop (i)++(l.toList.drop (n)).drop (m)).toArray,rfl,Ya _,?_,p,J,?_,?_⟩⟩,⟨rfl,rfl,rfl,by simp[World.setRow],fun k hk L=>?_⟩,fun b Z=>.inl Z⟩
    ·rw[Z3,Z3,x,y,d];omega
    ·have a1:w.drew.heap[g]?=some (.cells l 70 (0,0)):=Q;simp[World.setRow,Zu,a1]
    ·rw[ZJ,Z3,Z3,Z3,x,y,d,Zp,Zp,I];omega
    ·exact ZX (by rw[Z3,Z3,x,y,d];omega)
    ·simp only[World.setRow,Zu];rw[if_neg (fun h=>L (by rw[Value.ownBlock,h]))]
     rfl
   ·refine(ins_growN (w:=w) (g:=g) (n:=n) (cap:=cap) (i:=i) (m:=m) (vc:=vc) (va:=va) (A:=xs.take (i)) (B:=xs.drop (i)) (vs:=vs) (by omega) hm a4 (by omega) z F x y
     (by rw[ZK];intro j u hj;have:=f.cells (g:=g) rfl j u hj;rwa [Addr.add_lit,Yo]at this) d s (fun u hu=>M u (Zq hu)) C).mono ?_
    rintro e w2 ⟨G,Y,rfl,hG,H,hY,U,r,X,h3⟩;refine⟨_,rfl,⟨?_,.inr ⟨w.heap.size,G,_,rfl,Ya _,by rw[U,ZD,if_pos rfl],hG,H,?_,?_⟩⟩,⟨r,X,h3,by rw[U,Array.size_push];omega,fun k hk L=>by rw[U,ZD,if_neg (by omega)]⟩,fun b Z=>.inr ?_⟩
    ·rw[Z3,Z3,x,y,d];omega
    ·rw[ZJ,Z3,Z3,Z3,x,y,d,hY];omega
    ·exact ZX (by rw[Z3,Z3,x,y,d];omega)
    ·simp only[blockOf,Zz]at Z;omega
set_option maxHeartbeats 2000000 in
theorem zll{H:HM}{nx id n i:Nat}{nn:Bool}{cs us els:List D}(d:H id=some (.row 70 n cs))(hi:i<=n)(U:0<els.length)(K:z21 1 els=some us)(F:n+els.length<=1000000000) :
  AC prog 99 [.osl id n,.int .i64 i,.rsl nn 1 els] H nx fun r Y O=>r=.osl id (n+els.length)/\Y=z0m H id (some (.row 70 (n+els.length) (cs.take (i)++us++cs.drop (i))))/\O=nx:=by
 refine⟨⟨_,func99,by kernel_rfl,by kernel_rfl⟩,fun s w vs h1 h2 h Q=>?_⟩;subst h1;subst h2;simp only[relAll]at Q;obtain⟨v,r1,rfl,B,v2,r2,rfl,x,v3,r3,rfl,z,rfl⟩:=Q;simp only[rel]at B x;subst x;obtain⟨f,_,j⟩:=B;have B:=(j _ _ _ d).2 rfl;subst B;obtain⟨C,A,t,o,_,_⟩:=z3w h d;rw[z8r]at A;have u:=z54 h (e:=70) (n:=1) (m:=els.length) (news:=us) (by omega) (y:=.rsl nn 1 els) z8r (by simp only[z7b,if_true,K,Yc]) z;rcases u with ⟨_,h0,_⟩|⟨a,c,X,rfl,J,q,N,M⟩
 ·omega
 ·have E:=zsb h z rfl U (by omega);have I:z2l prog 70<=1000:=by
   have:decide (z2l prog 70<=1000)=true:=by kernel_rfl
   exact of_decide_eq_true this
  have l:(s.κ id).ownBlock≠some a.block:=by
   rw[z55 A];exact fun h5=>E ⟨id,f,by rw[d];simp,h5⟩
  refine(zsz (w:=w) (v:=s.κ id) (n:=n) (i:=i) (m:=els.length) (vc:=c) (va:=a) (xs:=C) (vs:=X) hi U A o
   (by have:=Nat.mul_le_mul F I;omega) (by unfold maxLen;omega) l (by rw[N,ZF]) M q).mono ?_
  rintro e W ⟨P,rfl,g,p,G⟩
  obtain⟨g1,g2⟩:=z90 (w':=W) h id (.row 70 n cs) (.row 70 (n+els.length) (cs.take (i)++us++cs.drop (i))) P d p.os p.tape p.output p.size
   (fun k hk l=>p.block k hk (by rw[z55 A];exact l))
   (.inr ⟨n+els.length,_,rfl,ZU _ _,fun a1=>by omega⟩)
   (fun b F=>G b F)
   (fun hl=>⟨C.take (i)++X++C.drop (i),by rw[z8r];exact g,relAll.later hl _ _ (z17 (z17 (z4k _ t) J) (z6b _ t)),z32 (z32 (z91 o _) q) (za8 o _)⟩)
  refine⟨P,.osl id (n+els.length),s.set id P (.row 70 (n+els.length) (cs.take (i)++us++cs.drop (i))),rfl,⟨rfl,rfl,rfl⟩,g1,g2,?_⟩;simp only[rel];obtain⟨Z,c2,L⟩:=z7f g;refine⟨f,⟨Z,c2,L⟩,fun e2 k2 a0 R=>?_⟩;simp only[RS.set,z0m,if_true,Zz,HObj.row.injEq]at R;obtain⟨_,rfl,_⟩:=R;exact⟨Zd _,fun _=>by simp[RS.set]⟩
end
section
open Abs Facts Tr
attribute [local irreducible] awp
set_option maxRecDepth 100000
namespace Tr
theorem zr5{α:Type}(f:α->Bool)(l:List α)(h:z1r f l<l.length):(l.take (z1r f l+1)).filter (fun x => !f x)=l.take (z1r f l):=by
 have u:∀j (b:j<z1r f l),f (l[j]'(by omega))=false:=fun j b=>by
  have q:=Z8 (l:=l.takeWhile fun x => !f x) (n:=j) b;have r:(l.takeWhile fun x => !f x)[j]'b=l[j]'(by omega):=List.IsPrefix.getElem (List.takeWhile_prefix _) b;have i:=List.all_eq_true.1 (List.all_takeWhile (p:=fun x => !f x) (l:=l)) _ q;rw[r]at i;simpa using i
 have t:f l[z1r f l]=true:=by
  cases v:f l[z1r f l]with
  |true=>rfl
  |false =>
   exfalso;have z:z1r f l=(z1r f l)+1 \/ True:=.inr trivial;have:∀(m:List α) (c:(m.takeWhile fun x => !f x).length<m.length),(!f (m[(m.takeWhile fun x => !f x).length]'c))=false:=by
    intro m
    induction m with
    |nil=>intro c;simp at c
    |cons a m y =>
     intro c;cases d:f a with
     |true=>simp[YF,d]
     |false =>
      have s:(!f a)=true:=by rw[d];rfl
      have e:((a::m).takeWhile fun x => !f x)=a::m.takeWhile fun x => !f x:=by simp[YF,d]
      have g:(m.takeWhile fun x => !f x).length<m.length:=by rw[e]at c;simpa using c
      have:=y g;simp only[e,Zt,List.getElem_cons_succ];exact this
   have:=this l h;have k:(!f l[z1r f l])=false:=this;rw[v]at k;cases k
 rw[Zb h,ZS];have o:(l.take (z1r f l)).filter (fun x => !f x)=l.take (z1r f l):=by
  refine Y0.2 fun x w=>?_;obtain⟨j,b,rfl⟩:=ZR w;rw[Zm]at b;rw[List.getElem_take,u j (by omega)];rfl
 rw[o];simp[t]
end Tr
theorem zb3{K:St->Prop}{Q:Exit->St->Prop}{st:St}(h:K st):zo8 K Q .normal st:=h
theorem zyp{H:HM}{nx:Nat}:AC prog 264 [.nil] H nx fun r c a=>r=.nil/\c=H/\a=nx:=by
 refine(zqzj [] func264 rfl (by decide+kernel) rfl ?_)
 repeat'(first|refine nxt ?_|((refine zqh fun K b=>?_);simp(disch:=omega)only[go_sem,Z0,↓reduceIte])|(refine zqd _ rfl ?_ ?_<;>intro d<;>(first|(cases d;done)|((try omega))))|refine zqU ?_|(refine b _ ?_;clear b K))
 (simp(disch:=omega)only[go_sem,Z0])
theorem ac_CloneN{H:HM}{nx id n:Nat}{cs:List D}(b:H id=some (.row 70 n cs))(g:id<nx)(m:n<=1000000)(f:cs.length=n) :
  AC prog 264 [.osl id n] H nx fun r k i=>r=.osl (nx+1) n/\k=z0m (z0m H nx (some row0)) (nx+1) (some (.row 70 n cs))/\i=nx+2:=by
 have c:=z69 g;refine z8f func264 rfl (by decide+kernel) (by simp[ntmps264]) ?_;refine Sem.seq (Sem.walk (own:=[2,5]) z5x (by decide+kernel) ?_)
 repeat'(first|((refine zqr fun K a=>?_);simp(disch:=omega)only[go_sem,Z0,↓reduceIte])|(refine a _ ?_;clear a K))
 refine zb3 ?_;refine Sem.seq (Sem.seq (sem_isnil (own:=[]) (l1:=[_]) (e:=70) rfl (by intro o j;simp at j;subst j;decide) (by decide) zo4 ?_));simp(disch:=omega)only[go_sem,Z0];refine⟨id,n,cs,rfl,by(simp(disch:=omega)only[go_sem,b,c]),?_,fun l=>?_⟩
 ·refine zb3 (Sem.cond false (by(simp(disch:=omega)only[go_sem,Z0])) (fun h=>by cases h) fun _=>?_);refine Sem.walk (own:=[]) z5x (by decide+kernel) (zqk (zb3 ?_));refine Sem.walk (own:=[2,5]) z5x (by decide+kernel) ?_
  repeat'(first|((refine zqh fun K a=>?_);simp(disch:=omega)only[go_sem,Z0,↓reduceIte,reduceCtorEq,Z2,Zj,b,c])|refine nxt ?_|refine zqU ?_|(refine a _ ?_;clear a K))
  (simp(disch:=omega)only[go_sem,Z0]);rw[z7g]
  rfl
 ·subst l;have d:cs=[]:=ZO f;subst d;refine zb3 (Sem.cond true (by(simp(disch:=omega)only[go_sem,Z0])) (fun _=>?_) fun h=>by cases h);refine Sem.walk (own:=[2,5]) z5x (by decide+kernel) ?_
  repeat'(first|((refine zqh fun K a=>?_);simp(disch:=omega)only[go_sem,Z0,↓reduceIte])|refine nxt ?_|refine zqU ?_|(refine a _ ?_;clear a K))
  (simp(disch:=omega)only[go_sem,Z0])
  rfl
theorem zr6{H:HM}{i:Nat}{o:HObj}(h:H i=some o):z0m H i (some o)=H:=by
 funext j;unfold z0m;split
 ·rename_i e;rw[e,h]
 ·rfl
theorem zwf{H:HM}{nx b:Nat}{i:Idv}{w:V}(e:H w.num=some (.box 117 (z5c w)))(c:H b=some (idB i))(f:w.num<nx)(d:b<nx) :
  RC prog 180 [.ptr w.num 0,.ptr b 0] H nx (.bool (decide (w.own.id=i))):=by
 refine(zqzj [3000008,3000009] func180 rfl (by decide+kernel) rfl ?_)
 repeat'(first|((first|refine zqh fun K a=>?_|refine zqe (by decide+kernel) fun K a=>?_);simp(disch:=omega)only[go_sem,Z0,Z4,↓reduceIte,reduceCtorEq,Z2,Z1,e,c,idB,z5c,z0a])|refine nxt ?_|refine zqU ?_|(refine a _ ?_;clear a K))
 (simp(disch:=omega)only[go_sem,Z0])
theorem rc_IndexN{H:HM}{nx id b:Nat}{i:Idv}{ks:List V}(m:H id=some (rowV ks))(I:ks.length<=1000000)(C:H b=some (idB i))(r:b<nx)(o:∀k∈ks,H k.num=some (.box 117 (z5c k))/\k.num<nx) :
  RC prog 268 [.osl id ks.length,.fn 180 [.ptr b 0]] H nx (.int .i64 (if z1r (fun k:V=>decide (k.own.id=i)) ks<ks.length then (z1r (fun k:V=>decide (k.own.id=i)) ks:Int) else -1)):=by
 obtain⟨f,w⟩:∃f:V->Bool,f=fun k:V=>decide (k.own.id=i):=⟨_,rfl⟩
 have c:∀k∈ks,RC prog 180 [.ptr k.num 0,.ptr b 0] H nx (.bool (f k)):=fun k y=>by rw[w];exact zwf (o k y).1 C (o k y).2 r
 rw[<-w];refine(zqzj [] func268 rfl (by decide+kernel) rfl ?_)
 repeat'(first|refine nxt ?_|((refine zqh fun K a=>?_);simp(disch:=omega)only[go_sem,Z0])|(refine a _ ?_;clear a K))
 unfold rowV at m;(refine zqL (fun z g=>∃(j:_),z=ks.length-j/\g.t 0=.osl id ks.length/\g.t 1=.fn 180 [.ptr b 0]/\g.t 7=.int .i64 ks.length/\g.t 8=.int .i64 j/\g.nx=nx/\(j<=ks.length)/\(g.H=H)/\(∀n,(l:n<j)->(h:n<ks.length)->f ks[n]=false)) ?_ ?_);rintro z g ⟨j,rfl,A,B,u,v,p,G,q,d⟩;rotate_left
 ·(refine⟨_,0,rfl,?_⟩);simp(disch:=omega)only[go_sem,Z0,true_and,Zl];exact fun n l=>by omega
 by_cases x:j<ks.length
 ·have E:=Ze x;have F:=c ks[j] (Z8 x)
  repeat'(first|((first|refine zqh fun K a=>?_|refine zqr fun K a=>?_|refine z20 (F) ?_);simp(disch:=omega)only[go_sem,Z0,↓reduceIte,reduceCtorEq,Z2,A,B,u,v,p,q,m,E])|((first|refine zqd _ rfl (fun c=>?_) (fun c=>?_)|refine zqm _ rfl (fun c=>?_) (fun c=>?_))<;>(((try simp only[z05]at c);try omega)))|refine nxt ?_|refine zqU ?_|(refine a _ ?_;clear a K))
  ·(simp(disch:=omega)only[go_sem,Z0]);rw[z2j (k:=j) (by omega) (fun n l=>d n l (by omega)) (fun h=>by assumption),if_pos (by omega)]
  ·(refine⟨_,?_,j+1,rfl,?_⟩);rotate_left;simp(disch:=omega)only[go_sem,Z0,A,B,u,v,true_and,Zh,Zi];rotate_left
   ·omega
   ·refine⟨by omega,fun n l h=>?_⟩
    by_cases e:n=j
    ·subst e;assumption
    ·exact d n (by omega) h
 ·repeat'(first|((refine zqh fun K a=>?_);simp(disch:=omega)only[go_sem,↓reduceIte,u,v,p])|(refine zqd _ rfl ?_ ?_<;>intro c<;>(((try simp only[z05]at c);try omega)))|refine nxt ?_|refine zqz ?_|refine zqU ?_|(refine a _ ?_;clear a K))
  have s:j=ks.length:=by omega
  subst s;simp(disch:=omega)only[go_sem,Z0,q];rw[z2j (k:=ks.length) (by omega) (fun n l=>d n l (by omega)) (fun h=>by omega),if_neg (by omega)]
theorem zyq{H:HM}{nx id b:Nat}{i:Idv}{ks:List V}(y:H id=some (rowV ks))(a5:id<nx)(hl:ks.length<=1000000)(hb:H b=some (idB i))(F:b<nx)(W:b≠id)(d:∀k∈ks,H k.num=some (.box 117 (z5c k))/\k.num<nx/\k.num≠id)(w:∃k∈ks,k.own.id=i) :
  AC prog 179 [.osl id ks.length,.fn 180 [.ptr b 0]] H nx fun r H' a6=>r=.osl nx (ks.filter fun k => !decide (k.own.id=i)).length/\H'=z0m (z0m H id none) nx (some (rowV (ks.filter fun k => !decide (k.own.id=i))))/\a6=nx+1:=by
 have I:=rc_IndexN y hl hb F (fun k w=>⟨(d k w).1,(d k w).2.1⟩);obtain⟨f,Q⟩:∃f:V->Bool,f=fun k:V=>decide (k.own.id=i):=⟨_,rfl⟩
 have G:z1r f ks<ks.length:=by
  have:=z7e f ks;have ha:ks.any f=true:=by
   obtain⟨k,a3,a4⟩:=w;rw[List.any_eq_true];exact⟨k,a3,by rw[Q];exact decide_eq_true a4⟩
  rw[ha]at this;simpa using this
 have Z:(ks.filter fun k => !decide (k.own.id=i))=ks.filter fun k => !f k:=by rw[Q]
 rw[Z];rw[<-Q,if_pos G]at I;have X:∀k∈ks,∀U:HM,(∀q,q≠id->U q=H q)->RC prog 180 [.ptr k.num 0,.ptr b 0] U nx (.bool (f k)):=fun k w U P=>by
  rw[Q];exact zwf (by rw[P _ (d k w).2.2];exact(d k w).1) (by rw[P _ W];exact hb) (d k w).2.1 F
 have a8:=z69 a5;have a0:(ks.take (z1r f ks+1)).filter (fun x => !f x)=ks.take (z1r f ks):=zr5 f ks G;unfold rowV at y;refine z8f func179 rfl (by decide+kernel) (by simp[ntmps179]) ?_;refine Sem.seq (Sem.walk (own:=[]) z5x (by decide+kernel) ?_)
 repeat'(first|((refine zqr fun K a=>?_);simp(disch:=omega)only[go_sem,↓reduceIte])|(refine a _ ?_;clear a K))
 refine zb3 ?_;refine Sem.seq (Sem.walk (own:=[]) z5x (by decide+kernel) ?_)
 repeat'(first|((first|refine zqr fun K a=>?_|refine z20 (I) ?_);simp(disch:=omega)only[go_sem,Z0])|(refine a _ ?_;clear a K))
 refine zb3 ?_;refine Sem.seq (Sem.walk (own:=[]) z5x (by decide+kernel) ?_)
 repeat'(first|((refine zqh fun K a=>?_);simp(disch:=omega)only[go_sem,Z0,↓reduceIte,reduceCtorEq])|((refine zqm _ rfl (fun c=>?_) (fun c=>?_))<;>(first|(cases c;done)|((try omega))))|refine nxt ?_|(refine a _ ?_;clear a K))
 refine zb3 ?_;refine Sem.seq (Sem.walk (own:=[]) z5x (by decide+kernel) ?_)
 repeat'(first|((refine zqh fun K a=>?_);simp(disch:=omega)only[go_sem,Z0,↓reduceIte])|refine nxt ?_|(refine a _ ?_;clear a K))
 (refine zqL (fun mz l=>∃(n:Nat) (j:Nat) (L:List V),mz=ks.length-j/\l.t 0=.osl id ks.length/\l.t 1=.fn 180 [.ptr b 0]/\l.t 5=.int .i64 n/\l.t 6=.int .i64 j/\l.nx=nx/\(n<j)/\(j<=ks.length)/\(L.length=ks.length)/\(L.take n=(ks.take j).filter (fun x => !f x))/\(L.drop j=ks.drop j)/\(l.H=z0m H id (some (.row 70 ks.length (L.map fun v=>.ptr v.num 0))))) ?_ ?_);rintro mz l ⟨n,j,L,rfl,B,R,N,O,C,a7,a9,b0,g,E,h⟩;rotate_left
 ·(refine⟨_,z1r f ks,z1r f ks+1,ks,rfl,?_⟩);simp(disch:=omega)only[go_sem,Z0,true_and,Zh,Zi];exact⟨by omega,by omega,a0.symm,(zr6 y).symm⟩
 by_cases hj:j<ks.length
 ·have a1:L[j]=ks[j]:=by
   have h1:L.drop j=L[j]::L.drop (j+1):=ZT (by omega);have P:ks.drop j=ks[j]::ks.drop (j+1):=ZT hj;rw[h1,P,YA]at E;exact E.1
  have Y:L.drop (j+1)=ks.drop (j+1):=by
   rw[<-YG,<-YG,E]
  have u:=Zb hj;have hg:L[j]?=some ks[j]:=by rw[Ze (by omega),a1]
  have s:l.H id=some (.row 70 ks.length (L.map fun v=>.ptr v.num 0)):=by rw[h];exact z3k
  have m:=X ks[j] (Z8 hj) l.H (fun q hq=>by rw[h];exact z5v hq);cases p:f ks[j]with
  |true =>
   rw[p]at m
   repeat'(first|refine nxt ?_|((first|refine zqh fun K a=>?_|refine zqr fun K a=>?_|refine z20 (m) ?_);simp(disch:=omega)only[go_sem,Z0,↓reduceIte,reduceCtorEq,Z2,B,R,O,C,s,hg])|((first|refine zqd _ rfl (fun c=>?_) (fun c=>?_)|refine zqm _ rfl (fun c=>?_) (fun c=>?_))<;>(first|(cases c;done)|((try simp only[z05]at c);try omega)))|(refine a _ ?_;clear a K))
   (refine⟨_,?_,n,j+1,L,rfl,?_⟩);rotate_left;simp(disch:=omega)only[go_sem,Z0,B,R,N,O,true_and,Zh,Zi];rotate_left
   all_goals (repeat'(first|omega|(rw[g,u,ZS];simp[p];done)|refine And.intro ?_ ?_))
  |false =>
   rw[p]at m
   repeat'(first|refine nxt ?_|((first|refine zqh fun K a=>?_|refine zqr fun K a=>?_|refine z20 (m) ?_);simp(disch:=omega)only[go_sem,Z0,↓reduceIte,reduceCtorEq,Z2,Zj,B,R,N,O,C,s,hg,Zk])|((first|refine zqd _ rfl (fun c=>?_) (fun c=>?_)|refine zqm _ rfl (fun c=>?_) (fun c=>?_))<;>(first|(cases c;done)|((try simp only[z05]at c);try omega)))|(refine a _ ?_;clear a K))
   have e1:(L.set n ks[j]).take (n+1)=L.take n++[ks[j]]:=by
    rw[Zb (by rw[YC];omega),List.getElem_set_self,List.take_set_of_le (Zd _)]
   have e2:(L.set n ks[j]).drop (j+1)=ks.drop (j+1):=by rw[List.drop_set_of_lt (by omega)];exact Y
   (refine⟨_,?_,n+1,j+1,(L.set n ks[j]),rfl,?_⟩);rotate_left;simp(disch:=omega)only[go_sem,Z0,B,R,N,O,true_and,Zh,Zi,YC];rotate_left
   all_goals (repeat'(first|omega|(rw[e1,g,u,ZS];simp[p];done)|(rw[h,z7g,List.map_set];done)|refine And.intro ?_ ?_))
 ·have a2:j=ks.length:=by omega
  subst a2;rw[ZA]at g;have s:l.H id=some (.row 70 ks.length (L.map fun v=>.ptr v.num 0)):=by rw[h];exact z3k
  repeat'(first|refine nxt ?_|((refine zqh fun K a=>?_);simp(disch:=omega)only[go_sem,Z0,↓reduceIte,B,O])|(refine zqd _ rfl ?_ ?_<;>intro c<;>(((try simp only[z05]at c);try omega)))|(refine a _ ?_;clear a K))
  refine zqz (zb3 ?_);refine Sem.seq (sem_clear (own:=[]) (l1:=[_,_]) (e:=70) rfl (by intro o M;simp at M;rcases M with rfl|rfl<;>decide) (by decide) zo4 (by rw[z8r];decide) (z:=.pointer none) (by kernel_rfl) (by rw[z8r];rfl) (by decide) ?_);simp(disch:=omega)only[go_sem,Z0,B,N,C];refine⟨id,ks.length,n,_,rfl,rfl,s,a7,?_⟩;refine zb3 (Sem.seq (zzk (own:=[]) (l1:=[_,_]) (e:=70) rfl (by intro o M;simp at M;rcases M with rfl|rfl<;>decide) (by decide) (by decide) zo4 (by rw[z8r];decide) ?_));simp(disch:=omega)only[go_sem,Z0,B,N];refine⟨id,ks.length,n,_,rfl,rfl,by simp;rfl,by omega,by omega,zb3 ?_⟩;refine Sem.walk (own:=[]) z5x (by decide+kernel) ?_
  repeat'(first|refine nxt ?_|refine zqU ?_)
  have A:(L.take n).length=n:=by rw[Zm];omega
  have u:Y9 n (List.map (fun v:V=>D.ptr v.num 0) (Y9 n L)++ZI (ks.length-n) D.any)=(L.take n).map fun v=>.ptr v.num 0:=ZX (by rw[Zk,A]);have J:n=(ks.filter fun k => !f k).length:=by rw[<-g,A]
  refine⟨?_,?_,rfl⟩
  ·(simp(disch:=omega)only[go_sem,Z0]);rw[<-J]
  ·(simp(disch:=omega)only[go_sem]);rw[u,z7g,h,z7g,<-g];unfold rowV;rw[A]
def ptrO:Option Nat->D
 |none=>.nptr
 |some x=>.ptr x 0
def DoOK(g:FuncId)(cap:List D)(lo:Nat)(H0:HM)(E:zyr)(w:V):Prop:=∀m H n c r,PreE lo m H n c r w->Agree lo H0 H ->
 AC prog g (.ptr c 0::cap) H n fun d a b=>d=.tup []/\a=(E w c r H n).1/\b=(E w c r H n).2
theorem zyo{g:FuncId}{cap:List D}{lo:Nat}{id:Idv}{E:zyr}{Q:V->V->Prop}{H0:HM}:∀v:V,szB (treeV v)=true->(∀w∈nodesV v,w.own.id=id->DoOK g cap lo H0 E w/\zu0 lo H0 E Q w)->∀H n,lo<=n->Agree lo H0 H->Stand H v->Under lo v ->
  AC prog 169 [.ptr v.num 0,z0z id,.fn g cap] H n fun r' H' n'=>r'=ptrO (ztz id E v H n).1/\H'=(ztz id E v H n).2.1/\n'=(ztz id E v H n).2.2:=by
 refine zgg fun v ih hs hE H n a4 h0 a0 hu=>?_;have J:Under n v:=hu.le a4;have P:=J _ (z5m v);obtain⟨s1,s2,s3⟩:=(z34 H v).1 a0;have h3:v.kids.length<=1000000:=by
  obtain⟨_,_,_,_,_,h3,_⟩:=(z1k _).1 hs;rw[z26,Zk]at h3;exact h3
 obtain⟨Z,p,a6,F⟩:=zr8 (id:=id) a4 a0 hu;have a2:=zi1 a0 J;have a5:=z69 P;rw[chgR_eq];unfold chgF;simp only;generalize hk:zf6 v (z0m H n (some (idB id))) (n+1)=k at Z p a6 F⊢;obtain⟨r,Hk,c⟩:=k;simp only at Z p a6 F⊢;refine(zqzj [3000014,3000018,4000019,10000019,3000026,3000027] func169 rfl (by decide+kernel) rfl ?_)
 repeat'(first|((refine z09 (N:=1) rfl fun K b=>?_);simp(disch:=omega)only[go_sem])|(refine b _ ?_;clear b K))
 (refine z6d (fun a=>a.t 0=.ptr v.num 0/\a.t 2=.fn g cap/\a.t 4=.ptr n 0/\a.t 7=.ptr c 0/\a.nx=c+1/\(a.H=z0m Hk c (some (nodeB v.own (kdR r v.kids.length))))) ?_ ?_);rotate_left;(rintro a ⟨p0,p2,p4,p7,A,h⟩);rotate_left
 ·rcases a2 with ⟨G,O⟩|⟨r0,G,I,o⟩
  ·have y:kdD v=.nil:=by unfold kdD;rw[G]
   have c1:=fun H nx=>zyp (H:=H) (nx:=nx);have Y:zf6 v (z0m H n (some (idB id))) (n+1)=(none,z0m H n (some (idB id)),n+1):=by unfold zf6;rw[G]
   rw[Y,Y1,Y1]at hk;obtain⟨rfl,rfl,rfl⟩:=hk
   repeat'(first|((first|refine zqq (by decide+kernel) fun K b=>?_|refine zfi (c1 _ _) rfl ?_);simp(disch:=omega)only[go_sem,Z0,Z4,↓reduceIte,reduceCtorEq,Z2,Z1,s1,a5,z5c,y])|(refine b _ ?_;clear b K))
   (refine z5s ?_);simp(disch:=omega)only[go_sem,Z0,true_and]
   rfl
  ·have y:kdD v=.osl r0 v.kids.length:=by unfold kdD;rw[G]
   have Y:zf6 v (z0m H n (some (idB id))) (n+1)=(some (n+1+1),z0m (z0m (z0m H n (some (idB id))) (n+1) (some row0)) (n+1+1) (some (rowV v.kids)),n+1+2):=by unfold zf6;rw[G]
   rw[Y,Y1,Y1]at hk;obtain⟨rfl,rfl,rfl⟩:=hk;have c0:=z69 I
   repeat'(((refine zqq (by decide+kernel) fun K b=>?_);simp(disch:=omega)only[go_sem,Z0,Z4,↓reduceIte,reduceCtorEq,Z2,Z1,s1,a5,z5c,y]))
   refine z4p (ac_CloneN (n:=v.kids.length) (cs:=v.kids.map fun k=>.ptr k.num 0) (by(simp(disch:=omega)only[go_sem,c0,o])) (by(simp(disch:=omega)only[go_sem])) h3 (by simp)) rfl rfl rfl ⟨ZU _ _,fun j C=>?_⟩ ?_
   ·rw[z03 _ (by omega),z03 _ (by omega)]
   (try(simp(disch:=omega)only[go_sem,Z0,↓reduceIte,Z2,Z1]));repeat'((refine b _ ?_;clear b K))
   (refine z5s ?_);simp(disch:=omega)only[go_sem,Z0,true_and]
   rfl
 have hH:a.H c=some (.box 117 (z5c (.mk c r v.own v.kids))):=by rw[h];exact z3k
 have c3:=Z.cn;have c4:=Z.mc;have L:Agree n H a.H:=by rw[h];exact p
 have b0:a.H n=some (idB id):=by rw[h];exact F
 have U:a.H v.num=some (.box 117 (z5c v)):=by rw[L _ P];exact s1
 have a1:Agree lo H0 (z0m Hk c (some (nodeB v.own (kdR r v.kids.length)))):=fun j C=>(p j (by omega)).trans (h0 j C)
 repeat'(first|refine nxt ?_|((first|refine z09 (N:=5) rfl fun K b=>?_|refine z1s (N:=5) rfl (by decide+kernel) fun K b=>?_);simp(disch:=omega)only[go_sem,Z0,Z4,↓reduceIte,reduceCtorEq,Z2,Z1,p0,p2,p4,p7,A,b0,U,z5c,idB,z0a])|(refine zqd _ rfl ?_ ?_<;>intro s<;>(((try simp only[z05]at s);try omega)))|(refine b _ ?_;clear b K))
 ·have z:=(hE v (z5b v) (by assumption)).1 n _ (c+1) c r Z a1;rw[<-h,<-A]at z;refine z2i (z.mono fun r' H' n' ⟨y,e2,e3⟩=>?_);subst y;(try(simp(disch:=omega)only[go_sem]));repeat'(first|refine nxt ?_|((refine zqh fun K b=>?_);simp(disch:=omega)only[go_sem,Z0,p7])|refine zqU ?_|(refine b _ ?_;clear b K))
  rw[if_pos (by assumption)];rw[h,A]at e2 e3;exact⟨rfl,e2,e3⟩
 ·rw[if_neg (by assumption)];rcases a2 with ⟨G,O⟩|⟨r0,G,I,o⟩
  ·have y:kdD v=.nil:=by unfold kdD;rw[G]
   repeat'(first|((refine zqh fun K b=>?_);simp(disch:=omega)only[go_sem,Z0,↓reduceIte,reduceCtorEq,Z2,p0,U,z5c,y])|refine nxt ?_|(refine b _ ?_;clear b K))
   (refine zqL (fun mz a=>∃(i:Nat),mz=1-i/\a.t 37=.int .i64 0/\a.t 38=.int .i64 0/\a.nx=c+1/\(a.H=z0m Hk c (some (nodeB v.own (kdR r v.kids.length))))) ?_ ?_);rintro mz a ⟨i,rfl,B,u,c2,a9⟩;rotate_left
   ·(refine⟨_,0,rfl,?_⟩);simp(disch:=omega)only[go_sem,Z0,A,true_and];exact h
   repeat'(first|((refine zqh fun K b=>?_);simp(disch:=omega)only[go_sem,↓reduceIte,Y5,B,u,c2])|(refine zqd _ rfl ?_ ?_<;>intro s<;>(first|(cases s;done)|((try omega))))|refine nxt ?_|refine zqz ?_|refine zqU ?_|(refine b _ ?_;clear b K))
   rw[show v.kids.map (ztz id E)=[] from by rw[O];rfl];exact⟨rfl,a9,rfl⟩
  ·have y:kdD v=.osl r0 v.kids.length:=by unfold kdD;rw[G]
   have a7:=(L _ I).trans o
   repeat'(first|((refine zqh fun K b=>?_);simp(disch:=omega)only[go_sem,Z0,↓reduceIte,reduceCtorEq,Z2,p0,U,z5c,y])|refine nxt ?_|(refine b _ ?_;clear b K))
   (refine zqL (fun mz a=>∃(i:_),mz=v.kids.length-i/\a.t 2=.fn g cap/\a.t 4=.ptr n 0/\a.t 7=.ptr c 0/\a.t 36=.osl r0 v.kids.length/\a.t 37=.int .i64 v.kids.length/\a.t 38=.int .i64 i/\(i<=v.kids.length)/\(c+1<=a.nx)/\(Agree (c+1) (z0m Hk c (some (nodeB v.own (kdR r v.kids.length)))) a.H)/\(zty v c r ((v.kids.drop i).map (ztz id E)) i a.H a.nx=zty v c r (v.kids.map (ztz id E)) 0 (z0m Hk c (some (nodeB v.own (kdR r v.kids.length)))) (c+1))) ?_ ?_);rintro mz a ⟨i,rfl,q2,q4,q7,a8,B,u,a9,c5,l,d⟩;rotate_left
   ·(refine⟨_,0,rfl,?_⟩);simp(disch:=omega)only[go_sem,Z0,Z1,p2,p4,p7,A,true_and,Zl];exact⟨Zd _,by rw[h];exact Agree.refl _ _,by rw[h]⟩
   have b3:a.H c=some (.box 117 (z5c (.mk c r v.own v.kids))):=by rw[l c (Yy _)];exact z3k
   have b7:a.H n=some (idB id):=by rw[l n (by omega)];exact F
   have a7:a.H r0=some (.row 70 v.kids.length (v.kids.map fun k=>.ptr k.num 0)):=((l r0 (by omega)).trans (p _ I)).trans o
   by_cases hi:i<v.kids.length
   ·have b5:v.kids[i]?=some v.kids[i]:=Ze hi;have f:=Z8 hi;have b4:v.kids.drop i=v.kids[i]::v.kids.drop (i+1):=ZT hi;have R:Stand a.H v.kids[i]:=Stand.on _ (fun j C=>(l j (by have:=z5d J f j C;omega)).trans (p j (z5d J f j C))) (s3 _ f);have M:Agree lo H0 a.H:=fun j C=>(l j (by omega)).trans (a1 j C);have X:=ih v.kids[i] f (zp7 hs f) (fun w hw=>hE w (z36 f hw)) a.H a.nx (by omega) M R (z5d hu f);have W:=zr9 v.kids[i] (fun w hw e=>(hE w (z36 f hw) e).2) a.H a.nx (by omega) M R (z5d hu f);rw[b4,Zc]at d;simp only[zty]at d;generalize ztz id E v.kids[i] a.H a.nx=o1 at X W d;obtain⟨x1,H1,n1⟩:=o1;have a3:=W.le;have m:=W.agree;simp only at X d a3 m
    repeat'(first|((refine zqh fun K b=>?_);simp(disch:=omega)only[go_sem,Z0,↓reduceIte,reduceCtorEq,Z2,Z1,q2,q4,a8,B,u,b7,a7,b5,idB,z0a])|(refine zqd _ rfl ?_ ?_<;>intro s<;>(((try simp only[z05]at s);try omega)))|refine nxt ?_|(refine b _ ?_;clear b K))
    refine z2i (X.mono fun r' H' n' ⟨y,e2,e3⟩=>?_);subst y;subst e2;subst e3;cases x1 with
    |none =>
     unfold ptrO;simp only[Yq,Yr,if_false]at d;(try(simp(disch:=omega)only[go_sem,Z0]));repeat'(first|((first|refine zqh fun K b=>?_|refine zqr fun K b=>?_);simp(disch:=omega)only[go_sem,Z0,↓reduceIte,u])|((refine zqm _ rfl (fun s=>?_) (fun s=>?_))<;>(first|(cases s;done)|((try omega))))|refine nxt ?_|(refine b _ ?_;clear b K))
     (refine⟨_,?_,i+1,rfl,?_⟩);rotate_left;simp(disch:=omega)only[go_sem,Z0,q2,q4,q7,a8,B,u,true_and,Zh,Zi];rotate_left
     ·omega
     ·exact⟨by omega,by omega,fun j C=>(m j (by omega)).trans (l j C),d⟩
    |some x =>
     unfold ptrO;simp only[Yp,if_true,Yx]at d;obtain⟨q,hq⟩:∃q,r=some q:=by
      cases b9:r with
      |none =>
       have h0:v.kids.length=0:=by rw[Z.nor b9];rfl
       omega
      |some q=>exact⟨q,rfl⟩
     subst hq;obtain⟨r1,r2,r3⟩:=Z.row q rfl;have b2:H' c=some (.box 117 [.int .i64 v.own.id.act,.int .i64 v.own.id.item,.int .i64 v.own.id.n,.int .i64 v.own.kind,.str v.own.label,z0f v.own.head,z0f v.own.words,.nil,.osl q v.kids.length]):=(m c (by omega)).trans b3;have b8:H' q=some (rowV v.kids):=((m q (by omega)).trans (l q (by omega))).trans r3;(try(simp(disch:=omega)only[go_sem,Z0]));repeat'(first|((refine zqh fun K b=>?_);simp(disch:=omega)only[go_sem,Z0,↓reduceIte,reduceCtorEq,Z2,Zj,q7,b2,b8,rowV,Zk])|((refine zqm _ rfl (fun s=>?_) (fun s=>?_))<;>(first|(cases s;done)|((try omega))))|refine nxt ?_|refine zqU ?_|(refine b _ ?_;clear b K))
     rw[<-d];refine⟨rfl,?_,rfl⟩;simp(disch:=omega)only[go_sem]
     rfl
   ·repeat'(first|((refine zqh fun K b=>?_);simp(disch:=omega)only[go_sem,↓reduceIte,B,u])|(refine zqd _ rfl ?_ ?_<;>intro s<;>(((try simp only[z05]at s);try omega)))|refine nxt ?_|refine zqz ?_|refine zqU ?_|(refine b _ ?_;clear b K))
    have b6:v.kids.drop i=[]:=List.drop_eq_nil_of_le (by omega);rw[b6]at d;rw[<-d];exact⟨rfl,rfl,rfl⟩
theorem zwi:∀t:T,szB t=true->∀H c,AC prog 27 [z0o t] H c fun r H' U=>r=.ptr (c+1) 0/\H'=(z7k t H c).2.1/\U=(z7k t H c).2.2:=by
 refine z4a fun t ih hs H c=>?_;obtain⟨h0,h1,Y,h2,u,h3,h4⟩:=(z1k _).1 hs;have c1:=z7l t.head (by omega);have c2:=z7l t.words (by omega);have a2:=zvn (nx:=c+3) (by omega);have O:(c==c+1)=false:=by simp
 have P:(c+1==c)=false:=by simp
 have B:=z0n t;refine(zqzj [3000038,3000039,4000040,10000040] func27 rfl (by decide+kernel) rfl ?_)
 repeat'(first|refine nxt ?_|((first|refine zqh fun K d=>?_|refine zqe (by decide+kernel) fun K d=>?_|refine zqt (c1) ?_|refine zqt (c2) ?_);simp(disch:=omega)only[go_sem,Z0,Z4,↓reduceIte,reduceCtorEq,Z2,Z1,Zj,O,P,z0o,B,z0f,Zf,Zg])|(refine d _ ?_;clear d K))
 (refine zqL (fun mz a=>∃(i:_),mz=t.kids.length-i/\a.t 1=.ptr c 0/\a.t 3=.ptr (c+1) 0/\a.t 28=z0l t.kids/\a.t 29=.int .i64 t.kids.length/\a.t 30=.int .i64 i/\(i<=t.kids.length)/\(a.H=(zup t H c i).H)/\(a.nx=(zup t H c i).n)) ?_ ?_);rintro mz a ⟨i,rfl,q1,G,q,p,f,X,l,s⟩;rotate_left
 ·(refine⟨_,0,rfl,?_⟩);simp(disch:=omega)only[go_sem,Z0,true_and,Zl,z0l,zs1];unfold gs0 unitB nodeB;simp only[B,z7g];exact⟨rfl,trivial⟩
 have w:=ginv_at (t:=t) (fun k _=>z8v k) H c i X
 by_cases L:i<t.kids.length
 ·have F:=Z8 L;have a0:(t.kids.map z0o)[i]?=some (z0o t.kids[i]):=by rw[Ys,Ze L];rfl
  have E:=ih t.kids[i] F (h4 _ F);have m:=z8v t.kids[i];obtain⟨g,C⟩:∃g,g=zup t H c i:=⟨_,rfl⟩
  rw[<-C]at w l s;have a1:=w.le;have Y:=w.unit;have u:=w.node;rw[<-l]at Y u;have Z:(c+1==a.nx)=false:=zdt (by omega);have k2:(a.nx==c+1)=false:=zdt (by omega);have v:=m (z0m a.H a.nx (some (unitB t.kids[i]))) (a.nx+1);have b:stG t (c+1) g (t.kids[i],z7k t.kids[i])=zup t H c (i+1):=by rw[zs3 t H c L,C]
  cases z:g.r with
  |none =>
   have y:kdG g=.nil:=by unfold kdG;rw[z]
   rw[y]at u
   repeat'(first|((first|refine zqh fun K d=>?_|refine zqq (by decide+kernel) fun K d=>?_);simp(disch:=omega)only[go_sem,Z0,Z4,↓reduceIte,reduceCtorEq,Z2,Z1,G,q,p,f,z0l,u,Z,nodeB])|(refine zqd _ rfl ?_ ?_<;>intro A<;>(((try simp only[z05]at A);try omega)))|refine nxt ?_|(refine d _ ?_;clear d K))
   refine z4p (E _ _) rfl rfl rfl ⟨Zx (ZU _ 2) (m _ _).le,fun j N=>(m _ _).agree j N⟩ ?_;unfold unitB at v;simp only[H_put,H_withH,nx_put,zwx,z7g];unfold stG unitB at b;simp only[z]at b;rw[<-l,<-s]at b;have e:(z7k t.kids[i] (z0m a.H a.nx (some (.box 27 (z08 t.kids[i])))) (a.nx+1)).1.num=a.nx+1+1:=by rw[zd9];rfl
   generalize z7k t.kids[i] (z0m a.H a.nx (some (.box 27 (z08 t.kids[i])))) (a.nx+1)=o at v b e⊢;obtain⟨ov,I,W⟩:=o;have x:=v.le;have h:=v.agree;simp only at x h b e⊢;have k5:(c+1==W)=false:=zdt (by omega);have R:g.vs.length=i:=by have:=congrArg YN w.vs;rw[Zk,Zm]at this;omega
   have J:I (c+1)=some (nodeB t .nil):=by rw[h _ (by omega),z5v (by omega)];exact u
   have Q:=w.none_ z;rw[Q]at b;(try(simp(disch:=omega)only[go_sem,Z0,Z4,↓reduceIte,reduceCtorEq,Z2,YH,Z1,Zj,J,k5,nodeB]));repeat'(first|((refine zqr fun K d=>?_);simp(disch:=omega)only[go_sem,Z0,↓reduceIte,f])|refine nxt ?_|(refine d _ ?_;clear d K))
   (refine⟨_,?_,i+1,rfl,?_⟩);rotate_left;simp(disch:=omega)only[go_sem,Z0,q1,G,q,p,f,true_and,Zh,Zi];rotate_left
   ·omega
   ·rw[<-b];refine⟨by omega,?_,rfl⟩;unfold rowV nodeB;simp[e]
  |some r =>
   have y:kdG g=.osl r g.vs.length:=by unfold kdG;rw[z]
   obtain⟨r1,r2,r3,r4⟩:=w.row r z;rw[y]at u;rw[<-l]at r3;have k3:(r==a.nx)=false:=zdt (by omega);have k4:(a.nx==r)=false:=zdt (by omega)
   repeat'(first|((first|refine zqh fun K d=>?_|refine zqq (by decide+kernel) fun K d=>?_);simp(disch:=omega)only[go_sem,Z0,Z4,↓reduceIte,reduceCtorEq,Z2,Z1,G,q,p,f,z0l,u,Z,nodeB])|(refine zqd _ rfl ?_ ?_<;>intro A<;>(((try simp only[z05]at A);try omega)))|refine nxt ?_|(refine d _ ?_;clear d K))
   refine z4p (E _ _) rfl rfl rfl ⟨Zx (ZU _ 2) (m _ _).le,fun j N=>(m _ _).agree j N⟩ ?_;unfold unitB at v;simp only[H_put,H_withH,nx_put,zwx,z7g];unfold stG unitB at b;simp only[z]at b;rw[<-l,<-s]at b;have e:(z7k t.kids[i] (z0m a.H a.nx (some (.box 27 (z08 t.kids[i])))) (a.nx+1)).1.num=a.nx+1+1:=by rw[zd9];rfl
   generalize z7k t.kids[i] (z0m a.H a.nx (some (.box 27 (z08 t.kids[i])))) (a.nx+1)=o at v b e⊢;obtain⟨ov,I,W⟩:=o;have x:=v.le;have h:=v.agree;simp only at x h b e⊢;have k5:(c+1==W)=false:=zdt (by omega);have R:g.vs.length=i:=by have:=congrArg YN w.vs;rw[Zk,Zm]at this;omega
   have J:I (c+1)=some (nodeB t (.osl r g.vs.length)):=by rw[h _ (by omega),z5v (by omega)];exact u
   have f2:I r=some (rowV g.vs):=by rw[h _ (by omega),z5v (by omega)];exact r3
   have k6:(c+1==r)=false:=zdt (by omega);(try(simp(disch:=omega)only[go_sem,Z0,Z4,↓reduceIte,reduceCtorEq,Z2,Z1,Zj,J,f2,k6,nodeB,rowV]));repeat'(first|((refine zqr fun K d=>?_);simp(disch:=omega)only[go_sem,Z0,↓reduceIte,f])|refine nxt ?_|(refine d _ ?_;clear d K))
   (refine⟨_,?_,i+1,rfl,?_⟩);rotate_left;simp(disch:=omega)only[go_sem,Z0,q1,G,q,p,f,true_and,Zh,Zi];rotate_left
   ·omega
   ·rw[<-b];refine⟨by omega,?_,rfl⟩;unfold rowV nodeB;simp[e]
 ·repeat'(first|((refine zqh fun K d=>?_);simp(disch:=omega)only[go_sem,Z0,↓reduceIte,G,p,f])|(refine zqd _ rfl ?_ ?_<;>intro A<;>(((try simp only[z05]at A);try omega)))|refine nxt ?_|refine zqz ?_|refine zqU ?_|(refine d _ ?_;clear d K))
  have M:i=t.kids.length:=by omega
  subst M;rw[zd9];exact⟨rfl,l,s⟩
def fldE(f:T->T):zyr:=fun w c r H n=>(z0m H c (some (nodeB (f w.own) (kdR r w.kids.length))),n)
def rowE(w:V)(c q:Nat)(ks:List V)(H:HM):HM:=z0m (z0m H q (some (rowV ks))) c (some (nodeB w.own (.osl q ks.length)))
def outK(i:Idv)(w:V):List V:=w.kids.filter fun k => !decide (k.own.id=i)
def outE(i:Idv):zyr:=fun w c r H n=>(rowE w c n (outK i w) (z0m H (r.getD 0) none),n+1)
def zg9(w:V)(c:Nat)(r:Option Nat)(H:HM)(n:Nat):Nat×HM×Nat:=match r with
 |some q=>(q,H,n)
 |none=>(n,z0m (z0m H n (some row0)) c (some (nodeB w.own (.osl n 0))),n+1)
def zvy(at_:Nat)(x:V)(w:V):List V:=w.kids.take at_++x::w.kids.drop at_
def movE(at_:Nat)(x:V):zyr:=fun w c r H n=>(rowE w c (zg9 w c r H n).1 (zvy at_ x w) (zg9 w c r H n).2.1,(zg9 w c r H n).2.2)
def insE(at_:Nat)(t:T):zyr:=fun w c r H n =>
 let g:=z7k t (zg9 w c r H n).2.1 (zg9 w c r H n).2.2
 (rowE w c (zg9 w c r H n).1 (zvy at_ g.1 w) g.2.1,g.2.2)
theorem zne{lo m n c:Nat}{H:HM}{r:Option Nat}{w:V}{Q:V->V->Prop}(h:PreE lo m H n c r w){q n2:Nat}{ks:List V}{H2:HM}(t:m<=q)(g:q≠c)(s:q<n2)(p:n<=n2)(f:Agree m H H2)
  (a:∀k∈ks,Stand H2 k/\∀j∈objsV k,(j<lo \/ m<=j)/\j<n2/\j≠q/\j≠c) (i:Q w (.mk c (some q) w.own ks)):PostE lo m H n c w Q (rowE w c q ks H2,n2) (.mk c (some q) w.own ks):=by
 have o:=h.mc;have l:=h.cn;unfold rowE;have d:∀j∈objsV (.mk c (some q) w.own ks),j=c \/ j=q \/ ∃k∈ks,j∈objsV k:=fun j hj=>by
  rw[z9b,Z5,Z7]at hj;rcases hj with e|hj|hj
  ·exact .inl e
  ·have hj:j∈(some q).toList:=hj;simp only[Y3,Zn]at hj;exact .inr (.inl hj)
  ·obtain⟨k,b,hj⟩:=Z9.1 hj;exact .inr (.inr ⟨k,b,hj⟩)
 refine⟨rfl,rfl,(z34 _ _).2 ⟨?_,?_,fun k b=>?_⟩,fun j hj=>?_,fun j hj=>?_,p,fun j hj=>?_,i⟩
 ·exact z2r _ _ _
 ·show z0m (z0m H2 q _) c _ q=_;rw[z03 _ g,z2r];rfl
 ·refine Stand.on k (fun j hj=>?_) (a k b).1;have:=(a k b).2 j hj;show z0m (z0m H2 q _) c _ j=_;rw[z03 _ (by omega),z03 _ (by omega)]
 ·rcases d j hj with e|e|⟨k,b,hj⟩
  ·simp only;omega
  ·simp only;omega
  ·exact((a k b).2 j hj).2.1
 ·rcases d j hj with e|e|⟨k,b,hj⟩
  ·omega
  ·omega
  ·exact((a k b).2 j hj).1
 ·show z0m (z0m H2 q _) c _ j=_;rw[z03 _ (by omega),z03 _ (by omega),f j hj]
theorem zth{f:T->T}(p:∀q:T,(f q).id=q.id/\(f q).setKids q.kids=f q){lo:Nat}{H0:HM}{w:V}:zu0 lo H0 (fldE f) (fun w i=>i.own=f w.own/\i.kids=w.kids) w:=fun m H n c r a _=>by
 have s:=a.mc;have o:=a.cn;have h:=a.lom;have b:∀j∈objsV (.mk c r (f w.own) w.kids),j=c \/ (m<=j/\j<c) \/ j<lo:=fun j hj=>by
  rw[z9b,Z5,Z7]at hj;rcases hj with e|hj|hj
  ·exact .inl e
  ·have hj:j∈r.toList:=hj;cases g:r with
   |none=>rw[g]at hj;cases hj
   |some q =>
    rw[g]at hj;simp only[Y3,Zn]at hj;have:=a.row q g;exact .inr (.inl ⟨by omega,by omega⟩)
  ·obtain⟨k,d,hj⟩:=Z9.1 hj;exact .inr (.inr ((a.kids k d).2 j hj))
 refine⟨.mk c r (f w.own) w.kids,rfl,(p w.own).1,(z34 _ _).2 ⟨z2r _ _ _,?_,fun k d=>?_⟩,fun j hj=>?_,fun j hj=>?_,Zd _,fun j hj=>z03 _ (by omega),rfl,rfl⟩
 ·unfold zns;cases r with
  |none=>exact a.nor rfl
  |some q =>
   obtain⟨t,u,l⟩:=a.row q rfl;show z0m H c _ q=_;rw[z03 _ (by omega),l];rfl
 ·refine Stand.on k (fun j hj=>?_) (a.kids k d).1;have:=(a.kids k d).2 j hj;exact z03 _ (by omega)
 ·have:=b j hj;show j<n;omega
 ·have:=b j hj;omega
theorem eff_out{i:Idv}{lo:Nat}{H0:HM}{w:V}(b:∃k∈w.kids,k.own.id=i):zu0 lo H0 (outE i) (fun w g=>g.own=w.own/\g.kids=outK i w) w:=fun m H n c r a _=>by
 have o:=a.mc;have l:=a.cn;have f:=a.lom;obtain⟨q,rfl⟩:∃q,r=some q:=by
  cases p:r with
  |none =>
   obtain⟨k,b,_⟩:=b;rw[a.nor p]at b;cases b
  |some q=>exact⟨q,rfl⟩
 obtain⟨s,t,u⟩:=a.row q rfl;refine⟨_,zne a (q:=n) (ks:=outK i w) (n2:=n+1) (H2:=z0m H q none) (by omega) (by omega) (by omega) (by omega) (fun j d=>z03 _ (by omega)) (fun k b=>?_) ⟨rfl,rfl⟩⟩;obtain⟨h,e⟩:=a.kids k (YD.1 b).1;exact⟨Stand.on k (fun j d=>z03 _ (by have:=e j d;omega)) h,fun j d=>by have:=e j d;omega⟩
theorem zcv{lo m n c:Nat}{H:HM}{r:Option Nat}{w:V}(b:PreE lo m H n c r w):let o:=zg9 w c r H n
  m<=o.1/\o.1≠c/\o.1<o.2.2/\n<=o.2.2/\Agree m H o.2.1/\o.2.1 c=some (nodeB w.own (.osl o.1 w.kids.length))/\o.2.1 o.1=some (rowV w.kids)/\(∀k∈w.kids,Stand o.2.1 k/\Under lo k):=by
 have l:=b.mc;have i:=b.cn;have g:=b.lom;cases d:r with
 |none =>
  have a:=b.nor d;unfold zg9;simp only;refine⟨by omega,by omega,by omega,by omega,fun j t=>?_,?_,?_,fun k f=>?_⟩
  ·rw[z03 _ (by omega),z03 _ (by omega)]
  ·rw[z2r,a];rfl
  ·rw[z03 _ (by omega),z2r,a];rfl
  ·rw[a]at f;cases f
 |some q =>
  obtain⟨p,s,h⟩:=b.row q d;have e:=b.box;rw[d]at e;unfold zg9;simp only;exact⟨by omega,by omega,by omega,Zd _,Agree.refl _ _,e,h,b.kids⟩
theorem eff_mov{at_:Nat}{x:V}{lo:Nat}{H0:HM}{w:V}(C:Stand H0 x)(d:Under lo x):zu0 lo H0 (movE at_ x) (fun w s=>s.own=w.own/\s.kids=zvy at_ x w) w:=fun m H n c r b v=>by
 have B:=b.mc;have A:=b.cn;have p:=b.lom;obtain⟨g,h,i,l,e,t,u,a⟩:=zcv b;unfold movE;generalize zg9 w c r H n=o at g h i l e t u a⊢;refine⟨_,zne b (q:=o.1) (ks:=zvy at_ x w) (n2:=o.2.2) (H2:=o.2.1) g h i l e (fun k hk=>?_) ⟨rfl,rfl⟩⟩;have old:∀k,Stand o.2.1 k->Under lo k->Stand o.2.1 k/\∀j∈objsV k,(j<lo \/ m<=j)/\j<o.2.2/\j≠o.1/\j≠c:=fun k y z=>⟨y,fun j f=>by have:=z j f;omega⟩
 unfold zvy at hk;rcases Z7.1 hk with hk|hk
 ·exact old k (a k (Zr hk)).1 (a k (Zr hk)).2
 ·rcases Z5.1 hk with rfl|hk
  ·exact old k (Stand.on k (fun j f=>by have:=d j f;rw[e j (by omega),v j this]) C) d
  ·exact old k (a k (Zq hk)).1 (a k (Zq hk)).2
theorem eff_ins{at_:Nat}{t:T}{lo:Nat}{H0:HM}{w:V}:zu0 lo H0 (insE at_ t) (fun w v=>v.own=w.own/\∃g,treeV g=t/\(objsV g).Nodup/\(∀j∈objsV g,lo<=j)/\v.kids=zvy at_ g w) w:=fun m H n c r d K=>by
 have I:=d.mc;have G:=d.cn;have u:=d.lom;obtain⟨e,f,x,y,h,z,A,b⟩:=zcv d;unfold insE;simp only;generalize zg9 w c r H n=o at e f x y h z A b⊢;have s:=z8v t o.2.1 o.2.2;generalize z7k t o.2.1 o.2.2=g at s⊢;obtain⟨b1,J,i,B,C,l,E⟩:=s;refine⟨_,zne d (q:=o.1) (ks:=zvy at_ g.1 w) (n2:=g.2.2) (H2:=g.2.1) e f (by omega) (by omega) (fun j a=>(i j (by omega)).trans (h j a)) (fun k hk=>?_) ⟨rfl,g.1,b1,E,fun j a=>by have:=l j a;omega,rfl⟩⟩;have old:∀k,Stand o.2.1 k->Under lo k->Stand g.2.1 k/\∀j∈objsV k,(j<lo \/ m<=j)/\j<g.2.2/\j≠o.1/\j≠c:=fun k F p=>⟨Stand.on k (fun j a=>i j (by have:=p j a;omega)) F,fun j a=>by have:=p j a;omega⟩
 unfold zvy at hk;rcases Z7.1 hk with hk|hk
 ·exact old k (b k (Zr hk)).1 (b k (Zr hk)).2
 ·rcases Z5.1 hk with rfl|hk
  ·exact⟨B,fun j a=>by have:=C j a;have:=l j a;omega⟩
  ·exact old k (b k (Zq hk)).1 (b k (Zq hk)).2
end
section
open Abs Facts Tr
attribute [local irreducible] awp
set_option maxRecDepth 100000
theorem zc4{st:St}{q e i k j:Nat}{cs b:List D}(h:st.H q=some (.row e k cs)):zb7 st (z0m st.H q (some (.row i j b))) st.nx:=by
 refine⟨Zd _,fun id=>⟨fun _ f d a=>?_,fun c f d a=>?_⟩⟩
 ·unfold z0m;split
  ·rename_i g;rw[g,h]at a;cases a
  ·exact a
 ·unfold z0m at a;split at a
  ·cases a
  ·exact⟨c,a⟩
theorem zxc{at_:Nat}{x w:V}(h:at_<=w.kids.length):rowV (zvy at_ x w)=.row 70 (w.kids.length+1) (((w.kids.take at_).map fun v=>.ptr v.num 0)++[.ptr x.num 0]++((w.kids.drop at_).map fun v=>.ptr v.num 0)):=by
 unfold rowV zvy;have a:(w.kids.take at_++x::w.kids.drop at_).length=w.kids.length+1:=by
  rw[Z3,Zt,Zm,Zp];omega
 rw[a];simp
theorem put_len{at_:Nat}{x w:V}(h:at_<=w.kids.length):(zvy at_ x w).length=w.kids.length+1:=by
 unfold zvy;rw[Z3,Zt,Zm,Zp];omega
section
variable {lo:Nat}{H0:HM}{w:V}
theorem do_rel{b:Nat}{a:ByteArray}(k:H0 b=some (.box 9 [.str a]))(f:b<lo):DoOK 107 [.ptr b 0] lo H0 (fldE fun q=>q.setLabel a) w:=by
 intro m H n c r d j;have g:=d.box;have e:=(j b f).trans k;have o:=d.mc;have l:=d.cn;have i:=d.lom;have p:(b==c)=false:=zdt (by omega);refine(z0u [] func107 rfl (by decide+kernel) rfl ?_);show awp _ _ (Code.region _ _ _) _ _
 repeat'(first|((refine zqr fun K h=>?_);simp(disch:=omega)only[go_sem,Z0,↓reduceIte,reduceCtorEq,Z2,Z1,Zj,g,e,nodeB])|refine zqU ?_|(refine h _ ?_;clear h K))
 (simp(disch:=omega)only[go_sem]);exact⟨rfl,rfl⟩
theorem do_words{b:Nat}{l:List Wd}(s:l.length<=1000000)(k:H0 b=some (.box 24 [z0f l]))(e:b<lo):DoOK 113 [.ptr b 0] lo H0 (fldE fun q=>q.setWords l) w:=by
 intro m H n c r a j;have f:=a.box;have d:=(j b e).trans k;have p:=a.mc;have o:=a.cn;have h:=a.lom;have i:=z7l l (by omega);refine(z0u [] func113 rfl (by decide+kernel) rfl ?_);show awp _ _ (Code.region _ _ _) _ _
 repeat'(first|((first|refine zqr fun K g=>?_|refine zqs (i) ?_);simp(disch:=omega)only[go_sem,Z0,↓reduceIte,reduceCtorEq,Z2,f,d,nodeB])|refine zqU ?_|(refine g _ ?_;clear g K))
 (simp(disch:=omega)only[go_sem]);exact⟨rfl,rfl⟩
theorem do_head{b:Nat}{l:List Wd}(s:l.length<=1000000)(k:H0 b=some (.box 24 [z0f l]))(e:b<lo):DoOK 109 [.ptr b 0] lo H0 (fldE fun q=>q.setHead l) w:=by
 intro m H n c r a j;have f:=a.box;have d:=(j b e).trans k;have p:=a.mc;have o:=a.cn;have h:=a.lom;have i:=z7l l (by omega);refine(z0u [] func109 rfl (by decide+kernel) rfl ?_);show awp _ _ (Code.region _ _ _) _ _
 repeat'(first|((first|refine zqr fun K g=>?_|refine zqs (i) ?_);simp(disch:=omega)only[go_sem,Z0,↓reduceIte,reduceCtorEq,Z2,f,d,nodeB])|refine zqU ?_|(refine g _ ?_;clear g K))
 (simp(disch:=omega)only[go_sem]);exact⟨rfl,rfl⟩
theorem do_out{b:Nat}{i:Idv}(v:H0 b=some (idB i))(h:b<lo)(a:∃k∈w.kids,k.own.id=i)(y:w.kids.length<=1000000):DoOK 178 [.ptr b 0] lo H0 (outE i) w:=by
 intro m H n c r d t;have e:=d.box;have g:=(t b h).trans v;have z:=d.mc;have x:=d.cn;have l:=d.lom;obtain⟨q,rfl⟩:∃q,r=some q:=by
  cases A:r with
  |none =>
   obtain⟨k,a,_⟩:=a;rw[d.nor A]at a;cases a
  |some q=>exact⟨q,rfl⟩
 obtain⟨F,G,u⟩:=d.row q rfl
 have f:=zyq (nx:=n) u (by omega) y g (by omega) (by omega) (fun k a=>by
  obtain⟨p,s⟩:=d.kids k a;have:=s _ (z5m k)
  exact⟨((z34 _ _).1 p).1,by omega,by omega⟩) a
 have B:(c==n)=false:=zdt (by omega);have C:(c==q)=false:=zdt (by omega);refine(z0u [] func178 rfl (by decide+kernel) rfl ?_);show awp _ _ (Code.region _ _ _) _ _
 repeat'(((refine zqr fun K j=>?_);simp(disch:=omega)only[go_sem,Z0,↓reduceIte,reduceCtorEq,Z2,e,nodeB,kdR]))
 refine z2i (f.mono fun J E I ⟨o,e2,e3⟩=>?_);subst o;subst e2;subst e3;(try(simp(disch:=omega)only[go_sem,Z0,↓reduceIte,reduceCtorEq,Z2,Z1,Zj,e,nodeB,kdR,B,C]));repeat'(first|refine zqU ?_|(refine j _ ?_;clear j K))
 (simp(disch:=omega)only[go_sem]);exact⟨rfl,rfl⟩
theorem do_mov{a b at_:Nat}{x:V}(L:H0 a=some (.box 3 [.int .i64 at_]))(t:a<lo)(M:H0 b=some (.box 70 [.ptr x.num 0]))(u:b<lo)(X:Stand H0 x)(Q:Under lo x)(d:at_<=w.kids.length)(W:w.kids.length<=1000000) :
  DoOK 105 [.ptr a 0,.ptr b 0] lo H0 (movE at_ x) w:=by
 intro m H n c r l C;obtain⟨v,y,z,A,p,s,g,B⟩:=zcv l;have O:=l.mc;have N:=l.cn;have F:=l.lom;have k:=l.box;refine z8f func105 rfl (by decide+kernel) (by simp[ntmps105]) ?_;obtain⟨o,f⟩:∃o,o=zg9 w c r H n:=⟨_,rfl⟩
 rw[<-f]at v y z A p s g B;have e:SealTo prog (st0 [.ptr c 0,.ptr a 0,.ptr b 0] H n) (st0 [.ptr c 0,.ptr a 0,.ptr b 0] o.2.1 o.2.2):=by
  cases G:r with
  |none =>
   rw[G]at f k;have I:(st0 [.ptr c 0,.ptr a 0,.ptr b 0] H n).H c=some (.box 117 [.int .i64 w.own.id.act,.int .i64 w.own.id.item,.int .i64 w.own.id.n,.int .i64 w.own.kind,.str w.own.label,z0f w.own.head,z0f w.own.words,.nil,.nil]):=k;have J:=z9s (P:=prog) (off:=8) 70 I rfl;rw[f];exact J
  |some q =>
   rw[G]at f;rw[f];exact SealTo.refl _
 refine Sem.seal _ e ?_;have h:=((p a (by omega)).trans (C a t)).trans L;have j:=((p b (by omega)).trans (C b u)).trans M;obtain⟨q,U,Y⟩:=o;simp only at v y z A p s g B h j⊢;refine Sem.walk (own:=[3000008,3000009,3000010,4000012]) z5x (by decide+kernel) ?_;show awp _ _ (Code.region _ _ _) _ _;unfold rowV at g;have R:(c==q)=false:=zdt (by omega)
 repeat'(((refine zqq (by decide+kernel) fun K E=>?_);simp(disch:=omega)only[go_sem,Z0,Z4,↓reduceIte,reduceCtorEq,Z2,Z1,s,h,j,nodeB]))
 refine zia (zll (i:=at_) (nn:=true) (els:=[.ptr x.num 0]) g d (by simp) rfl (by simp;omega)) rfl rfl (zc4 g) ?_;(try(simp(disch:=omega)only[go_sem,Z0,Z4,↓reduceIte,reduceCtorEq,Z2,Z1,Zj,s,R,nodeB]));repeat'(first|refine zqU ?_|(refine E _ ?_;clear E K))
 unfold movE rowE;rw[<-f,zxc d,put_len d];exact⟨rfl,rfl,rfl⟩
theorem do_ins{a b at_:Nat}{t:T}(ht:szB t=true)(Y:H0 a=some (.box 3 [.int .i64 at_]))(A:a<lo)(Z:H0 b=some (unitB t))(B:b<lo)(d:at_<=w.kids.length)(hl:w.kids.length<=1000000) :
  DoOK 98 [.ptr a 0,.ptr b 0] lo H0 (insE at_ t) w:=by
 intro m H n c r u M;obtain⟨E,F,G,I,v,x,y,J⟩:=zcv u;have a9:=u.mc;have a0:=u.cn;have O:=u.lom;have s:=u.box;refine z8f func98 rfl (by decide+kernel) (by simp[ntmps98]) ?_;obtain⟨o,k⟩:∃o,o=zg9 w c r H n:=⟨_,rfl⟩
 rw[<-k]at E F G I v x y J;have j:SealTo prog (st0 [.ptr c 0,.ptr a 0,.ptr b 0] H n) (st0 [.ptr c 0,.ptr a 0,.ptr b 0] o.2.1 o.2.2):=by
  cases Q:r with
  |none =>
   rw[Q]at k s;have W:(st0 [.ptr c 0,.ptr a 0,.ptr b 0] H n).H c=some (.box 117 [.int .i64 w.own.id.act,.int .i64 w.own.id.item,.int .i64 w.own.id.n,.int .i64 w.own.kind,.str w.own.label,z0f w.own.head,z0f w.own.words,.nil,.nil]):=s;have X:=z9s (P:=prog) (off:=8) 70 W rfl;rw[k];exact X
  |some q =>
   rw[Q]at k;rw[k];exact SealTo.refl _
 refine Sem.seal _ j ?_;have l:=((v a (by omega)).trans (M a A)).trans Y;have p:=((v b (by omega)).trans (M b B)).trans Z;have h:=z8v t o.2.1 o.2.2;have f:(z7k t o.2.1 o.2.2).1.num=o.2.2+1:=by rw[zd9];rfl
 have e:=zwi t ht o.2.1 o.2.2;unfold insE rowE;simp only;rw[<-k];obtain⟨q,R,C⟩:=o;simp only at E F G I v x y J l p h f e⊢;generalize z7k t R C=g at h f e⊢;obtain⟨g1,g2,z,g4,g5,g6,g7⟩:=h;refine Sem.walk (own:=[3000008,3000009,3000010,4000011,10000011,4000013]) z5x (by decide+kernel) ?_;show awp _ _ (Code.region _ _ _) _ _;unfold rowV at y;have k1:(c==q)=false:=zdt (by omega);have U:=(z c (by omega)).trans x;have L:=(z q (by omega)).trans y
 repeat'(((refine zqq (by decide+kernel) fun K N=>?_);simp(disch:=omega)only[go_sem,Z0,Z4,↓reduceIte,reduceCtorEq,Z2,Z1,x,l,p,nodeB,unitB]))
 refine z4p e rfl rfl rfl ⟨by show C<=_;omega,z⟩ ?_;(try(simp(disch:=omega)only[go_sem,Z0,↓reduceIte,reduceCtorEq,Z2,Z1]));repeat' skip
 refine zia (zll (i:=at_) (nn:=true) (els:=[.ptr (C+1) 0]) L d (by simp) rfl (by simp;omega)) rfl rfl (zc4 L) ?_;(try(simp(disch:=omega)only[go_sem,Z0,Z4,↓reduceIte,reduceCtorEq,Z2,Z1,Zj,U,k1,nodeB]));repeat'(first|refine zqU ?_|(refine N _ ?_;clear N K))
 rw[zxc d,put_len d,f];exact⟨rfl,rfl,rfl⟩
end
end
section
open Abs Facts Tr
attribute [local irreducible] awp
set_option maxRecDepth 100000
def Det(f:FuncId)(ds:List D)(H:HM)(nx:Nat)(F:D×HM×Nat->Prop):Prop:=∃o:D×HM×Nat,AC prog f ds H nx (fun r a b=>r=o.1/\a=o.2.1/\b=o.2.2)/\F o
theorem Det.mono{f:FuncId}{ds:List D}{H:HM}{nx:Nat}{F G:D×HM×Nat->Prop}(h:Det f ds H nx F)(a:∀o,F o->G o):Det f ds H nx G:=by
 obtain⟨o,b,c⟩:=h;exact⟨o,b,a o c⟩
section
variable {own:List Nat}{n:FuncId}{args cap:List D}{g:List Oper->(St->Prop)->St->Prop}{rest:List Oper}{K:St->Prop}{st:St}{dst:Option Nat}{F:D×HM×Nat->Prop}
theorem callW_det(h:Det n (args++cap) st.H st.nx F)(d:∀o,F o->g rest K ((st.withH o.2.1 o.2.2).put dst o.1)):zrw prog (.fn n cap) args g rest K st dst:=by
 obtain⟨o,b,c⟩:=h;exact z2i (b.mono fun r e f ⟨a,e2,e3⟩=>by subst a;subst e2;subst e3;exact d o c)
theorem callD_det(h:Det n (args++cap) st.H st.nx F)(b:z0s 5000000 own dst=false)(f:z0s 4000000 own dst=true)(d:z0s 10000000 own dst=true)(i:∀o,F o->zfa st o.2.1 o.2.2)(e:∀o,F o->g rest K ((st.withH o.2.1 o.2.2).put dst o.1))(j:tcM own dst=none:=by rfl):zrx prog own (.fn n cap) args g rest K st dst:=by
 obtain⟨o,c,a⟩:=h;exact z4p c b f d (i o a) (e o a) j
end
def treeB(c:D):HObj:=.box 73 [c]
structure AtOK (e:Int) (lo:Nat) (id:Idv) (Q:V->V->Prop) (v:V) (H:HM) (n:Nat) (o:D×HM×Nat):Prop where
 le:n<=o.2.2
 agree:Agree n H o.2.1
 shape:(∃t,o.1=.tup [.ptr t 0,.int .i64 e]) \/ o.1=.tup [.nptr,.int .i64 e]
 bad:e≠0->o.1=.tup [.nptr,.int .i64 e]
 good:e=0->id∈idsT (treeV v)->∃v' t,o.1=.tup [.ptr t 0,.int .i64 0]/\n<=t/\t<o.2.2/\o.2.1 t=some (treeB (.ptr v'.num 0))/\Chg n id Q v v'/\Stand o.2.1 v'/\Under o.2.2 v'
theorem ziq{e:Int}{g:FuncId}{cap:List D}{lo tb:Nat}{id:Idv}{E:zyr}{Q:V->V->Prop}{H0 H:HM}{v:V}{n:Nat}(M:tb<n)(I:H tb=some (treeB (.ptr v.num 0)))(L:szB (treeV v)=true)(A:e=0->∀w∈nodesV v,w.own.id=id->DoOK g cap lo H0 E w/\zu0 lo H0 E Q w)
  (J:lo<=n) (G:Agree lo H0 H) (u:Stand H v) (y:Under lo v):Det 97 [.ptr tb 0,.int .i64 e,z0z id,.fn g cap] H n (AtOK e lo id Q v H n):=by
 have O:(tb==n)=false:=zdt (by omega);have b:Agree n H (z0m H n (some (idB id))):=fun j f=>z03 _ (by omega)
 by_cases B:e=0
 ·subst B;have c:Stand (z0m H n (some (idB id))) v:=Stand.agree (n:=lo) (fun j f=>b j (by omega)) v y u;have k:Agree lo H0 (z0m H n (some (idB id))):=fun j f=>(b j (by omega)).trans (G j f);have d:=zyo (g:=g) (cap:=cap) (id:=id) (E:=E) (Q:=Q) (H0:=H0) v L (A rfl) (z0m H n (some (idB id))) (n+1) (by omega) k c y;have i:=zr9 (id:=id) (E:=E) (Q:=Q) (H0:=H0) v (fun w N e=>(A rfl w N e).2) (z0m H n (some (idB id))) (n+1) (by omega) k c y;generalize ztz id E v (z0m H n (some (idB id))) (n+1)=o at d i;have r:=i.le;refine⟨(.tup [.ptr o.2.2 0,.int .i64 0],z0m o.2.1 o.2.2 (some (treeB (ptrO o.1))),o.2.2+1),?_,⟨by simp only;omega,fun j f=>?_,.inl ⟨_,rfl⟩,fun h=>absurd rfl h,fun _ q=>?_⟩⟩
  ·refine(zqzj [3000016,3000017,4000019,10000019] func97 rfl (by decide+kernel) rfl ?_);unfold idB at d i
   repeat'(first|refine nxt ?_|((first|refine zqh fun K a=>?_|refine zqe (by decide+kernel) fun K a=>?_);simp(disch:=omega)only[go_sem,Z0,Z4,↓reduceIte,reduceCtorEq,Z2,Z1,I,O,treeB,z0z,z0a])|(refine zqd _ rfl ?_ ?_<;>intro m<;>(first|(cases m;done)|((try omega))))|(refine a _ ?_;clear a K))
   refine z4p d rfl rfl rfl ⟨r,i.agree⟩ ?_;obtain⟨x,P,R⟩:=o;cases x with
   |none =>
    unfold ptrO;(try(simp(disch:=omega)only[go_sem,Z0,↓reduceIte,Z1]));repeat'(first|refine nxt ?_|refine zqU ?_|(refine a _ ?_;clear a K))
    (simp(disch:=omega)only[go_sem,Z0])
    rfl
   |some x =>
    unfold ptrO;(try(simp(disch:=omega)only[go_sem,Z0,↓reduceIte,Z1]));repeat'(first|refine nxt ?_|refine zqU ?_|(refine a _ ?_;clear a K))
    (simp(disch:=omega)only[go_sem,Z0])
    rfl
  ·simp only;rw[z03 _ (by omega),i.agree j (by omega),b j f]
  ·obtain⟨z,C,p,s,l,_⟩:=i.yes q;have t:Stand (z0m o.2.1 o.2.2 (some (treeB (ptrO o.1)))) z:=Stand.on z (fun j f=>z03 _ (by have:=l j f;omega)) s;refine⟨z,o.2.2,rfl,by omega,by simp,?_,Chg.mono (by omega) (fun _ _ _ h=>h) p,t,l.le (by simp)⟩;simp only;rw[z2r,C];rfl
 ·refine⟨(.tup [.nptr,.int .i64 e],z0m H n (some (idB id)),n+1),?_,⟨by simp,b,.inr rfl,fun _=>rfl,fun h=>absurd h B⟩⟩;refine(zqzj [3000016,3000017,4000019,10000019] func97 rfl (by decide+kernel) rfl ?_)
  repeat'(first|refine nxt ?_|((refine zqh fun K a=>?_);simp(disch:=omega)only[go_sem,Z0,↓reduceIte,z0z,z0a])|(refine zqd _ rfl ?_ ?_<;>intro m<;>(((try simp only[z05]at m);try omega)))|refine zqU ?_|(refine a _ ?_;clear a K))
  (simp(disch:=omega)only[go_sem,Z0])
  rfl
end
section
open Abs Facts Tr
attribute [local irreducible] awp
set_option maxRecDepth 100000
section
variable {H:HM}{n tb:Nat}{v:V}
theorem znq(h:szB (treeV v)=true)(i:tb<n)(e:H tb=some (treeB (.ptr v.num 0)))(c:Under n v)(a:Stand H v):RC prog 11 [.ptr tb 0] H n (z0o (treeV v)):=by
 have k:(tb==n)=false:=zdt (by omega)
 have d:∀o:Option HObj,RC prog 53 [.ptr v.num 0] (z0m H n o) (n+1) (z0o (treeV v)):=fun o =>
  rc_tree v h _ _ (c.le (by omega)) (Stand.agree (fun j g=>z03 _ (by omega)) v c a)
 have f:=z0n (treeV v);refine RC_keep (z02 _) (zqzj [] func11 rfl (by decide+kernel) rfl ?_);rw[show Tryz.f11.results.toList=[.cell 2 27] from rfl]
 repeat'(first|((first|refine zqh fun K b=>?_|refine z20 (d _) ?_);simp(disch:=omega)only[go_sem,Z0,↓reduceIte,reduceCtorEq,Z2,Z1,e,k,treeB])|refine nxt ?_|refine zqu (by(simp(disch:=omega)only[go_sem,Z0,↓reduceIte,Z1]);rfl) rfl ?_|(refine b _ ?_;clear b K))
 (simp(disch:=omega)only[go_sem,z0o]);exact fun j g=>by simp(disch:=omega)only[z40]
theorem sz_node:∀v:V,szB (treeV v)=true->∀w∈nodesV v,szB (treeV w)=true:=by
 refine zgg fun v c b w hw=>?_;rw[z41,Z5]at hw;rcases hw with rfl|hw
 ·exact b
 ·obtain⟨k,a,hw⟩:=Z9.1 hw;exact c k a (zp7 b a) w hw
def cntS(_:V):HObj->HObj
 | .box e [.int .i64 n]=>.box e [.int .i64 (IntKind.i64.wrap (n+1))]
 |o=>o
def zyi(o:HObj):Prop:=∃k,o=.box 3 [.int .i64 k]
theorem cnt_isCnt(w:V)(o:HObj)(h:zyi o):zyi (cntS w o):=by
 obtain⟨k,rfl⟩:=h;exact⟨_,rfl⟩
theorem find_id{id:Idv}{t:T}(h:(z07 id t).2=true):(z07 id t).1.id=id:=by
 have a:=zcu.1 h;unfold z07;rw[zf4 _ a];exact zof id t a
theorem zyj(k:(idsT (treeV v)).Nodup)(id:Idv):(zb2 id v=.nptr/\z07 id (treeV v)=(T.zero,false)) \/ ∃w∈nodesV v,w.own.id=id/\zb2 id v=.ptr w.num 0/\z07 id (treeV v)=(treeV w,true):=by
 unfold zb2;cases d:(nodesV v).find? (fun w=>decide (w.own.id=id))with
 |none =>
  left;refine⟨rfl,?_⟩;have g:id∉idsT (treeV v):=fun b=>by
   rw[z81]at b;obtain⟨w,a,e⟩:=Z6.1 b;have:=List.find?_eq_none.1 d w a;simp[e]at this
  refine zeq ?_;rw[z6a];exact g
 |some w =>
  right;have a:=Yh d;have e:w.own.id=id:=by simpa using List.find?_some d
  refine⟨w,a,e,rfl,?_⟩;have b:id∈idsT (treeV v):=by rw[z81];exact Z6.2 ⟨w,a,e⟩
  have c:(z07 id (treeV v)).2=true:=by rw[z1y,decide_eq_true b]
  have i:=z4r c;have j:(z07 id (treeV v)).1=treeV w:=by
   have h:treeV w∈z0c (treeV v):=by rw[z72];exact Z6.2 ⟨w,a,rfl⟩
   exact zbv (f:=T.id) k _ i _ h (by rw[z37,e];exact find_id c)
  exact Prod.ext j c
theorem wrong_ex{u:T}:z4q u ⟨-1,0,0⟩ 0 (.mk ⟨-2,0,0⟩ 2 ⟨#[49]⟩ [] [] [])=1 ↔ standsT u=false:=by
 unfold z4q;have a:standsT (.mk ⟨-2,0,0⟩ 2 ⟨#[49]⟩ [] [] [])=true:=by decide+kernel
 cases c:standsT u with
 |false=>simp
 |true =>
  rw[a];have b:T.kind (.mk ⟨-2,0,0⟩ 2 ⟨#[49]⟩ [] [] [])=2:=rfl;rw[b];simp only[Bool.true_eq_false,false_or,iff_false];rw[if_neg (by decide)];split
  ·decide
  split
  ·decide
  split
  ·decide
  split
  ·decide
  split
  ·decide
  split<;>decide
structure NewOK (u:T) (H:HM) (n:Nat) (o:D×HM×Nat):Prop where
 le:n<=o.2.2
 agree:Agree n H o.2.1
 bad:standsT u=false->o.1=.nptr
 good:standsT u=true->∃v t,o.1=.ptr t 0/\n<=t/\t<o.2.2/\o.2.1 t=some (treeB (.ptr v.num 0))/\Stand o.2.1 v/\Under o.2.2 v/\treeV v=u/\(objsV v).Nodup/\∀j∈objsV v,n<=j
theorem det_New(u:T)(s:szB u=true)(m:cntT u<=1000000)(B:depT u<=1000000):Det 7 [z0o u] H n (NewOK u H n):=by
 have i:=(zp9 u (.mk ⟨-2,0,0⟩ 2 ⟨#[49]⟩ [] [] []) s (by decide+kernel) m (by decide+kernel) B (by decide+kernel) ⟨-1,0,0⟩).le (ds:=[z0o u,z0z ⟨-1,0,0⟩,.agg [.int .i64 (-2),.int .i64 0,.int .i64 0,.int .i64 2,.str ⟨#[49]⟩,.nil,.nil,.nil]])
  (by simp[pureD.pureL,z02,pureD,z0z,z0a]) ⟨XV _,XV _,by rw[z0o,z0n];exact Le.agg ⟨XV _,XV _,XV _,XV _,XV _,Le.nil 4,Le.nil 4,Le.nil 8,trivial⟩,trivial⟩
 have o:=wrong_ex (u:=u);generalize z4q u ⟨-1,0,0⟩ 0 (.mk ⟨-2,0,0⟩ 2 ⟨#[49]⟩ [] [] [])=e at i o;have f:Agree n H (z0m H n (some (unitB u))):=fun j d=>z03 _ (by omega);cases a:standsT u with
 |false =>
  have q:=o.2 a;subst q;refine⟨(.nptr,z0m H n (some (unitB u)),n+1),?_,⟨by simp,f,fun _=>rfl,fun h=>by rw[a]at h;cases h⟩⟩;refine(zqzj [] func7 rfl (by decide+kernel) rfl ?_)
  repeat'(first|refine nxt ?_|((first|refine zqh fun K c=>?_|refine zqs (i) ?_);simp(disch:=omega)only[go_sem,Z0,↓reduceIte,Z2,Z1])|(refine zqd _ rfl ?_ ?_<;>intro l<;>(first|(cases l;done)|((try omega))))|refine zqU ?_|(refine c _ ?_;clear c K))
  (simp(disch:=omega)only[go_sem,Z0])
  rfl
 |true =>
  have q:¬e=1:=fun h=>by rw[o.1 h]at a;cases a
  have k:=zwi u s (z0m H n (some (unitB u))) (n+1);have r:=z8v u (z0m H n (some (unitB u))) (n+1);have b:(z7k u (z0m H n (some (unitB u))) (n+1)).1.num=n+1+1:=by rw[zd9];rfl
  generalize z7k u (z0m H n (some (unitB u))) (n+1)=g at k r b;obtain⟨w,E,x,y,p,z,A⟩:=r;refine⟨(.ptr g.2.2 0,z0m g.2.1 g.2.2 (some (treeB (.ptr (n+1+1) 0))),g.2.2+1),?_,⟨by simp only;omega,fun j d=>?_,(fun h=>by rw[a]at h;cases h),fun _=>⟨g.1,g.2.2,rfl,by omega,by simp,?_,?_,p.le (by simp),w,A,fun j d=>by have:=z j d;omega⟩⟩⟩
  ·refine(zqzj [] func7 rfl (by decide+kernel) rfl ?_);unfold unitB at k
   repeat'(first|refine nxt ?_|((first|refine zqh fun K c=>?_|refine zqs (i) ?_);simp(disch:=omega)only[go_sem,Z0,↓reduceIte,Z2,Z1])|(refine zqd _ rfl ?_ ?_<;>intro l<;>(((try simp only[z05]at l);try omega)))|(refine c _ ?_;clear c K))
   refine z2i (k.mono fun G C F ⟨t,e2,e3⟩=>?_);subst t;subst e2;subst e3;(try(simp(disch:=omega)only[go_sem,Z0,↓reduceIte,Z1]));repeat'(first|refine nxt ?_|refine zqU ?_|(refine c _ ?_;clear c K))
   (simp(disch:=omega)only[go_sem,Z0])
   rfl
  ·simp only;rw[z03 _ (by omega),x j (by omega),f j d]
  ·simp only;rw[z2r,b]
  ·exact Stand.on g.1 (fun j d=>z03 _ (by have:=p j d;omega)) y
end
end
section
open Abs Facts Tr
attribute [local irreducible] awp
set_option maxRecDepth 100000
def zl2(L:List Nat):HObj:=.map (L.map fun j=>(.ptr j 0,.bool true))
def numK:D->Option Nat
 | .ptr j 0=>some j
 |_=>none
def numsO:HObj->List Nat
 | .map a=>a.filterMap fun e=>numK e.1
 |_=>[]
theorem zki(L:List Nat):numsO (zl2 L)=L:=by
 show List.filterMap (fun e:D×D=>numK e.1) (L.map fun j=>(D.ptr j 0,D.bool true))=L;rw[List.filterMap_map];exact List.filterMap_some
def zkj(w:V)(o:HObj):HObj:=if w.num∈numsO o then o else zl2 (numsO o++[w.num])
def zhg(H:HM)(j:Nat):Prop:=∃e a,H j=some (.box e a)
def zs4(n:Nat)(H:HM)(j:Nat):Prop:=j<n/\zhg H j
def Known(B:Nat->Prop)(o:HObj):Prop:=∃L,o=zl2 L/\∀j∈L,B j
theorem zzl{B:Nat->Prop}{w:V}{o:HObj}(c:B w.num)(h:Known B o):Known B (zkj w o):=by
 obtain⟨L,rfl,a⟩:=h;unfold zkj;rw[zki];split
 ·exact⟨L,rfl,a⟩
 ·refine⟨_,rfl,fun j hj=>?_⟩;rcases Z7.1 hj with hj|hj
  ·exact a j hj
  ·rw[Zn]at hj;subst hj;exact c
theorem know_fold{l:List V}:∀L:List Nat,∃M,zhm zkj l (zl2 L)=zl2 M/\∀x,x∈M ↔ x∈L \/ x∈l.map V.num:=by
 induction l with
 |nil=>exact fun L=>⟨L,rfl,fun x=>by simp⟩
 |cons w l c =>
  intro L;have d:zkj w (zl2 L)=if w.num∈L then zl2 L else zl2 (L++[w.num]):=by unfold zkj;rw[zki]
  show ∃M,zhm zkj l (zkj w (zl2 L))=zl2 M/\_;rw[d]
  by_cases h:w.num∈L
  ·rw[if_pos h];obtain⟨M,e,a⟩:=c L;refine⟨M,e,fun x=>?_⟩;rw[a,Zc,Z5];constructor
   ·rintro(h2|h2)
    ·exact .inl h2
    ·exact .inr (.inr h2)
   ·rintro(h2|h2|h2)
    ·exact .inl h2
    ·exact .inl (h2 ▸ h)
    ·exact .inr h2
  ·rw[if_neg h];obtain⟨M,e,a⟩:=c (L++[w.num]);refine⟨M,e,fun x=>?_⟩;rw[a,Zc,Z5,Z7,Zn,or_assoc]
theorem set_true(L:List Nat)(p:Nat):z9f (L.map fun j=>(D.ptr j 0,D.bool true)) p (.bool true)=L.map fun j=>(D.ptr j 0,D.bool true):=by
 induction L generalizing p with
 |nil=>rfl
 |cons a L c =>
  cases p with
  |zero=>rfl
  |succ p=>simp only[Zc,z9f,c]
section
variable {H H0:HM}{n m k b:Nat}{v w:V}{o:HObj}
theorem ac_Know(l:zhg H w.num)(i:H b=some (.box 98 [.mp m]))(t:H m=some o)(u:Known (zhg H) o):AC prog 55 [.ptr w.num 0,.ptr b 0] H n fun r q e=>r=.tup []/\q=z0m H m (some (zkj w o))/\e=n:=by
 obtain⟨L,rfl,g⟩:=u;have s:zkj w (zl2 L)=if w.num∈L then zl2 L else zl2 (L++[w.num]):=by unfold zkj;rw[zki]
 rw[s];have c:H m=some (.map (L.map fun j=>(.ptr j 0,.bool true))):=t;refine(z0u [] func55 rfl (by decide+kernel) rfl ?_);show awp _ _ (Code.region _ _ _) _ _
 by_cases h:w.num∈L
 ·obtain⟨p,z,d⟩:=zjr (x:=.bool true) l L g h;rw[if_pos h];have y:=set_true L p
  repeat'(first|((refine zqr fun K a=>?_);simp(disch:=omega)only[go_sem,Z0,↓reduceIte,Z2,i,c,d,y])|refine zqU ?_|(refine a _ ?_;clear a K))
  exact⟨rfl,rfl,rfl⟩
 ·have d:=znu (f:=fun _=>.bool true) l L g h;rw[if_neg h]
  repeat'(first|((refine zqr fun K a=>?_);simp(disch:=omega)only[go_sem,Z0,↓reduceIte,Z2,i,c,d])|refine zqU ?_|(refine a _ ?_;clear a K))
  unfold zl2;rw[Zo];exact⟨rfl,rfl,rfl⟩
def za3(M:List Nat)(w:V)(o:HObj):HObj:=if w.num∈M then o else cntS w o
theorem fresh_cnt(M:List Nat)(w:V)(o:HObj)(h:zyi o):zyi (za3 M w o):=by
 unfold za3;split
 ·exact h
 ·exact cnt_isCnt w o h
theorem zzm(M:List Nat)(l:List V)(i:Nat)(h:i+l.length<=1000000000):zhm (za3 M) l (.box 3 [.int .i64 (i:Nat)])=.box 3 [.int .i64 ((i+l.countP fun w => !decide (w.num∈M):Nat))]:=by
 induction l generalizing i with
 |nil=>rfl
 |cons w l c =>
  simp only[Zt]at h
  by_cases a:w.num∈M
  ·show zhm (za3 M) l (za3 M w _)=_;have e:za3 M w (.box 3 [.int .i64 (i:Nat)])=.box 3 [.int .i64 (i:Nat)]:=if_pos a;rw[e,c i (by omega),List.countP_cons_of_neg (by simp[a])]
  ·show zhm (za3 M) l (za3 M w _)=_;have e:za3 M w (.box 3 [.int .i64 (i:Nat)])=.box 3 [.int .i64 ((i+1:Nat))]:=by
    unfold za3;rw[if_neg a];show HObj.box 3 [.int .i64 (IntKind.i64.wrap ((i:Int)+1))]=_;rw[zad (by omega)];rfl
   rw[e,c (i+1) (by omega),List.countP_cons_of_pos (by simp[a])]
   congr 3
   congr 1
   omega
theorem ac_Fresh{M:List Nat}(t:zhg H w.num)(l:∀j∈M,zhg H j)(q:H b=some (.box 98 [.mp m]))(y:H m=some (zl2 M))(s:H k=some o)(z:zyi o):AC prog 56 [.ptr w.num 0,.ptr b 0,.ptr k 0] H n fun r u g=>r=.tup []/\u=z0m H k (some (za3 M w o))/\g=n:=by
 obtain⟨i,rfl⟩:=z;have d:H m=some (.map (M.map fun j=>(.ptr j 0,.bool true))):=y;unfold za3;refine(zqzj [] func56 rfl (by decide+kernel) rfl ?_)
 by_cases h:w.num∈M
 ·obtain⟨p,A,e⟩:=zjr (x:=.bool true) t M l h;rw[if_pos h]
  repeat'(first|((refine zqh fun K a=>?_);simp(disch:=omega)only[go_sem,Z0,↓reduceIte,Z2,q,d,e])|((refine zqm _ rfl (fun c=>?_) (fun c=>?_))<;>(first|(cases c;done)|((try omega))))|refine nxt ?_|refine zqU ?_|(refine a _ ?_;clear a K))
  exact⟨rfl,(zr6 s).symm,rfl⟩
 ·have e:=znu (f:=fun _=>.bool true) t M l h;rw[if_neg h]
  repeat'(first|((first|refine zqh fun K a=>?_|refine zqr fun K a=>?_);simp(disch:=omega)only[go_sem,Z0,↓reduceIte,Z2,Z1,Zj,q,d,e,s])|((refine zqm _ rfl (fun c=>?_) (fun c=>?_))<;>(first|(cases c;done)|((try omega))))|refine zqU ?_|(refine a _ ?_;clear a K))
  exact⟨rfl,rfl,rfl⟩
theorem zif(a:Stand H v){w:V}(c:w∈nodesV v):zhg H w.num:=⟨_,_,((z34 H w).1 (zd4 v a w c)).1⟩
theorem ac_knows{H4:HM}{w:V}(E:szB (treeV w)=true)(i:Under n w)(f:Stand H w)(q:Agree n H H4)(z:H4 (n+1)=some (.box 98 [.mp n]))(y:H4 n=some (zl2 [])) :
  ∃M,(∀x,x∈M ↔ x∈(nodesV w).map V.num)/\AC prog 54 [.ptr w.num 0,.fn 55 [.ptr (n+1) 0]] H4 (n+2) fun r a u=>r=.tup []/\a=z0m H4 n (some (zl2 M))/\u=n+2:=by
 obtain⟨M,e,C⟩:=know_fold (l:=nodesV w) [];refine⟨M,fun x=>by rw[C];simp,?_⟩;rw[<-e];have A:∀a:HM,(Agree n H a/\a (n+1)=some (.box 98 [.mp n]))->∀x∈nodesV w,Stand a x:=fun a h x c=>Stand.agree h.1 x (z4w i c) (zd4 w f x c)
 refine ac_each zkj (Known (zs4 n H)) (fun a=>Agree n H a/\a (n+1)=some (.box 98 [.mp n])) (fun a o h=>⟨fun j d=>by rw[z03 _ (by omega)];exact h.1 j d,by rw[z03 _ (by omega)];exact h.2⟩)
  (fun x=>zs4 n H x.num) (fun x o c h=>zzl c h) w E (fun x c=>⟨z4w i c _ (z5m x),zif f c⟩) A (fun x c a I o F G t s g=>?_) H4 (n+2) (zl2 []) (i.le (by omega)) (by omega) y ⟨[],rfl,fun j d=>by cases d⟩ ⟨q,z⟩
 obtain⟨L,B,p⟩:=s;have old:∀j,zs4 n H j->zhg a j:=fun j ⟨d,e,cs,h⟩=>⟨e,cs,by rw[g.1 j d];exact h⟩
 exact ac_Know (old _ ⟨z4w i c _ (z5m x),zif f c⟩) g.2 t ⟨L,B,fun j d=>old j (p j d)⟩
theorem ac_freshs{c:HM}{M:List Nat}(F:szB (treeV v)=true)(E:(nodesV v).length<=1000000)(t:Under n v)(i:Stand H v)(p:Agree n H c)(C:∀j∈M,zs4 n H j)(z:c (n+1)=some (.box 98 [.mp n]))(y:c n=some (zl2 M))(A:c (n+2)=some (.box 3 [.int .i64 0])) :
  AC prog 54 [.ptr v.num 0,.fn 56 [.ptr (n+1) 0,.ptr (n+2) 0]] c (n+3) fun r a u=>r=.tup []/\a=z0m c (n+2) (some (.box 3 [.int .i64 (((nodesV v).countP fun w => !decide (w.num∈M):Nat))]))/\u=n+3:=by
 have f:=zzm M (nodesV v) 0 (by omega);rw[Yo]at f;rw[<-f];have B:∀a:HM,(Agree n H a/\a (n+1)=some (.box 98 [.mp n])/\a n=some (zl2 M))->∀x∈nodesV v,Stand a x:=fun a h x l=>Stand.agree h.1 x (z4w t l) (zd4 v i x l)
 refine ac_each (za3 M) zyi (fun a=>Agree n H a/\a (n+1)=some (.box 98 [.mp n])/\a n=some (zl2 M))
  (fun a o h=>⟨fun j g=>by rw[z03 _ (by omega)];exact h.1 j g,by rw[z03 _ (by omega)];exact h.2.1,by rw[z03 _ (by omega)];exact h.2.2⟩)
  (fun _=>True) (fun x o _ h=>fresh_cnt M x o h) v F (fun _ _=>trivial) B (fun x l a J o G I s q d=>?_) c (n+3) _ (t.le (by omega)) (by omega) A ⟨_,rfl⟩ ⟨p,z,y⟩
 have old:∀j,zs4 n H j->zhg a j:=fun j ⟨g,e,cs,h⟩=>⟨e,cs,by rw[d.1 j g];exact h⟩
 exact ac_Fresh (old _ ⟨z4w t l _ (z5m x),zif i l⟩) (fun j g=>old j (C j g)) d.2.1 d.2.2 s q
theorem zur{tb g:Nat}(P:szB (treeV v)=true)(h:cntT (treeV v)<=1000000)(p:tb<n)(N:H tb=some (treeB (.ptr v.num 0)))(Q:Under n v)(B:Stand H v)
  (A:szB (treeV w)=true) (q:g<n) (t:H g=some (treeB (.ptr w.num 0))) (r:Under n w) (e:Stand H w):RC prog 13 [.ptr tb 0,.ptr g 0] H n (.int .i64 (newV v w)):=by
 rw[cnt_tree]at h;have c:=z69 p;have l:=z69 q;refine RC_keep rfl (zqzj [] func13 rfl (by decide+kernel) rfl ?_)
 repeat'(first|refine nxt ?_|((refine zqh fun K d=>?_);simp(disch:=omega)only[go_sem,Z0,↓reduceIte,reduceCtorEq,Z2,Z1,Zj,t,c,l,treeB])|(refine zqd _ rfl ?_ ?_<;>intro O<;>(first|(cases O;done)|((try omega))))|(refine d _ ?_;clear d K))
 obtain⟨M,C,y⟩:=ac_knows (H4:=z0m (z0m (z0m H n (some (.map []))) (n+1) (some (.box 98 [.nmp]))) (n+1) (some (.box 98 [.mp n]))) A r e (fun j f=>by rw[z03 _ (by omega),z03 _ (by omega),z03 _ (by omega)]) z3k (by rw[z03 _ (by omega),z03 _ (by omega),z3k];rfl);refine z2i (y.mono fun U s R ⟨G,e2,e3⟩=>?_);subst G;subst e3;have a:Agree n H s:=fun j f=>by rw[e2,z03 _ (by omega),z03 _ (by omega),z03 _ (by omega),z03 _ (by omega)]
 have L:s (n+1)=some (.box 98 [.mp n]):=by rw[e2,z03 _ (by omega),z3k]
 have J:s n=some (zl2 M):=by rw[e2,z3k]
 have u:s tb=some (.box 73 [.ptr v.num 0]):=(a tb p).trans N;(try(simp(disch:=omega)only[go_sem]));repeat'(first|((refine zqh fun K d=>?_);simp(disch:=omega)only[go_sem,Z0,↓reduceIte,reduceCtorEq,Z2,Z1,Zj,u,c])|(refine d _ ?_;clear d K))
 refine z2i ((ac_freshs (H:=H) (M:=M) P h Q B (fun j f=>?_) (fun j f=>?_) ?_ ?_ ?_).mono fun U F R ⟨I,e5,e6⟩=>?_)
 ·(simp(disch:=omega)only[go_sem]);simp(disch:=omega)only[z40];exact a j f
 ·obtain⟨x,E,rfl⟩:=Z6.1 ((C j).1 f);exact⟨z4w r E _ (z5m x),zif e E⟩
 ·(simp(disch:=omega)only[go_sem,c]);exact L
 ·(simp(disch:=omega)only[go_sem,c]);exact J
 ·(simp(disch:=omega)only[go_sem])
 ·subst I;subst e6;have i:F (n+2)=some (.box 3 [.int .i64 (((nodesV v).countP fun w => !decide (w.num∈M):Nat))]):=by rw[e5];exact z3k
  have z:((nodesV v).countP fun w => !decide (w.num∈M))=newV v w:=by
   unfold newV;refine List.countP_congr fun x _=>?_;have:=C x.num;simp only[Y8,decide_eq_false_iff_not,this]
  rw[z]at i;(try(simp(disch:=omega)only[go_sem]));repeat'(first|((refine zqh fun K d=>?_);simp(disch:=omega)only[go_sem,Z0,↓reduceIte,Z2,i])|refine nxt ?_|refine zqU ?_|(refine d _ ?_;clear d K))
  (simp(disch:=omega)only[go_sem,Z0]);refine fun j f=>?_;rw[e5,z03 _ (by omega)];simp(disch:=omega)only[go_sem];simp(disch:=omega)only[z40];exact a j f
end
end
section
open Abs Facts Tr
namespace Tr
theorem Upd.congr{lo:Nat}{m1 m2:List Idv}{v v':V}(h:Upd lo m1 v v')(d:∀i,i∈m1 ↔ i∈m2):Upd lo m2 v v':=fun a f=>by
 rcases h a f with ⟨b,c,e⟩|⟨b,c⟩
 ·exact .inl ⟨b,c,fun h=>e ((d _).2 h)⟩
 ·exact .inr ⟨b,c.imp (d _).1 _root_.id⟩
theorem zf2{v:V}{id:Idv}(c:id∈idsT (treeV v))(i:Idv):i∈zdv id v ↔ i∈id::z3i id (treeV v):=by
 have a:=z4s.2 c;have b:=zof id (treeV v) a;unfold zdv z3i;have e:z27 id (treeV v)=(z27 id (treeV v)).dropLast++[(z27 id (treeV v))[(z27 id (treeV v)).length-1]'(by have:=List.length_pos_iff.2 a;omega)]:=by
  conv=>lhs;rw[<-List.dropLast_concat_getLast a]
  rw[List.getLast_eq_getElem]
 conv=>lhs;rw[e]
 rw[Zo,Z7,Z5,Yz];simp only[Zc,ZV,Zn,b];exact or_comm
theorem z61{n:Nat}{v:V}(c:Under n v):∀a∈nodesV v,a.num<n:=fun a b=>z4w c b _ (z5m a)
theorem ztw{m n:Nat}{id:Idv}{f:T->T}(r:∀q o,f (T.setKids q o)=(f q).setKids o)(s:∀q:T,(f q).id=q.id){v v':V}(k:(idsT (treeV v)).Nodup)(l:Under n v)(e:n<=m)(h:Chg m id (fun w g=>g.own=f w.own/\g.kids=w.kids) v v') :
  treeV v'=z10 id f (treeV v)/\Upd n (id::z3i id (treeV v)) v v'/\n<=v'.num:=by
 have t:=h.hit;refine⟨zi2 h k fun w _ g _ ⟨j,b⟩=>?_,Upd.congr (m1:=zdv id v) (fun a d=>?_) fun i=>zf2 t i,Zx e h.root.1⟩
 ·rw[z3e g,z3e w,j,b,r]
 ·rcases zeo (New:=fun _=>False) h k (fun a d=>ZE (z61 l a d) e) (fun w _ g _ ⟨_,b⟩ c hc a d=>.inl ⟨c,b ▸ hc,d⟩) a d with ⟨j,b⟩|⟨j,b,p⟩|h
  ·exact .inr ⟨by omega,.inl b⟩
  ·exact .inl ⟨z61 l a b,b,p⟩
  ·exact h.elim
theorem upd_ins{m n lo at_:Nat}{x:T}{id:Idv}{v v':V}(y:z4q (treeV v) id at_ x=0)(q:(idsT (treeV v)).Nodup)(r:Under n v)(o:n<=m)(p:n<=lo)
  (h:Chg m id (fun w e=>e.own=w.own/\∃g,treeV g=x/\(objsV g).Nodup/\(∀j∈objsV g,lo<=j)/\e.kids=w.kids.take at_++g::w.kids.drop at_) v v') :
  treeV v'=z10 id (z4u at_ x) (treeV v)/\Upd n (id::z3i id (treeV v)) v v'/\n<=v'.num:=by
 have u:=h.hit;obtain⟨_,_,_,_,_,_,_,_,_,_,_,_,_,_,l,_⟩:=zce y;refine⟨zi2 h q fun w _ e _ ⟨k,g,hg,_,_,b⟩=>?_,Upd.congr (m1:=zdv id v) (fun a f=>?_) fun i=>zf2 u i,Zx o h.root.1⟩
 ·rw[z3e e,z3e w,k,b];unfold z4u;show w.own.setKids _=w.own.setKids (Y9 at_ (w.kids.map treeV)++x::YQ at_ (w.kids.map treeV));rw[Zo,Zc,hg,YI,YJ]
 ·have t:∀w∈nodesV v,∀e:V,w.own.id=id->(e.own=w.own/\∃g,treeV g=x/\(objsV g).Nodup/\(∀j∈objsV g,lo<=j)/\e.kids=w.kids.take at_++g::w.kids.drop at_)->∀c∈e.kids,∀a∈nodesV c,(∃d∈w.kids,a∈nodesV d) \/ (n<=a.num/\a.own.id∈idsT x):=by
   intro w _ e _ ⟨_,g,hg,_,hgo,b⟩ c hc a f;rw[b,Z7,Z5]at hc;rcases hc with hc|rfl|hc
   ·exact .inl ⟨c,Zr hc,f⟩
   ·refine .inr ⟨Zx p (hgo _ (zr7 c a f _ (z5m a))),?_⟩;rw[<-hg,z81];exact Z6.2 ⟨a,f,rfl⟩
   ·exact .inl ⟨c,Zq hc,f⟩
  rcases zeo (New:=fun a=>n<=a.num/\a.own.id∈idsT x) h q (fun a f=>ZE (z61 r a f) o) t a f with ⟨k,b⟩|⟨k,b,s⟩|⟨k,b⟩
  ·exact .inr ⟨by omega,.inl b⟩
  ·exact .inl ⟨z61 r a b,b,s⟩
  ·exact .inr ⟨k,.inr (l _ b)⟩
theorem zjm{u:T}{id:Idv}(g:(idsT u).Nodup)(y:¬u.id=id)(A:id∈idsT u):∃a:Idv,(z3c id u).1=a/\a∈idsT u/\z3i id u=a::z3i a u/\a∉idsT (z07 id u).1/\(∃q∈z0c u,q.id=a/\∃k∈q.kids,k.id=id) /\
  z10 a (fun q=>q.setKids (q.kids.filter fun k => !decide (k.id=id))) u=z0q id u:=by
 obtain⟨C,q,l,x,r,e,c,o,G,n,z,B⟩:=zjl y A;subst e;have f:id∈idsT (q.setKids (l++x::r)):=by rw[z29];exact Za _ (ze1.2 (.inr (.inl (c ▸ z1b x))))
 obtain⟨p,E⟩:=z2c g f;have t:=(zbq (z88 g)).1 id (c ▸ z1b x);have b:q.id∈idsT (q.setKids (l++x::r)):=by rw[z29];exact Y2
 obtain⟨s,F⟩:=z2c g b;refine⟨q.id,by rw[B],z80 C b,?_,?_,⟨q.setKids (l++x::r),?_,rfl,x,by show x∈l++x::r;simp,c⟩,?_⟩
 ·have v:z3i q.id (q.setKids (l++x::r))=[]:=zbm rfl;rw[zi8 f C p,zi8 b C s,v,ztv o n (c ▸ z1b x),zbm c]
  rfl
 ·rw[z];have d:=z88 g;rw[z29,Yd,ZC,ZH,Z7,Z7]at d;exact fun h=>d.1 (.inr (.inl h))
 ·exact zin C (z1t _)
 ·have w:=z4n (id:=q.id) (fun q=>q.setKids (q.kids.filter fun k => !decide (k.id=id))) (q:=q.setKids (l++x::r)) rfl C s F;rw[w,zbp o c n t.2.2 C p E]
  congr 1
  show q.setKids ((l++x::r).filter _)=_;have j:∀k∈l,(!decide (k.id=id))=true:=fun k i=>by
   simp only[Y8,decide_eq_false_iff_not];exact fun e=>n (Z9.2 ⟨k,i,e ▸ z1b k⟩)
  have m:∀k∈r,(!decide (k.id=id))=true:=fun k i=>by
   simp only[Y8,decide_eq_false_iff_not];exact fun e=>t.2.2 (Z9.2 ⟨k,i,e ▸ z1b k⟩)
  rw[ZS,List.filter_cons,if_neg (by simp[c]),Y0.2 j,Y0.2 m]
theorem under_of{w:V}{i:Idv}:treeV (V.mk w.num w.row w.own (w.kids.filter fun k => !decide (k.own.id=i)))=(treeV w).setKids ((treeV w).kids.filter fun k => !decide (k.id=i)):=by
 rw[z3e,z3e w];show w.own.setKids ((w.kids.filter fun k => !decide (k.own.id=i)).map treeV)=w.own.setKids ((w.kids.map treeV).filter fun k => !decide (k.id=i));rw[List.filter_map]
 congr 2
 refine List.filter_congr fun k _=>?_;simp only[Function.comp,z37]
theorem upd_out{m n:Nat}{id b:Idv}{v v':V}(l:(idsT (treeV v)).Nodup)(o:Under n v)(f:n<=m)(r:z10 b (fun q=>q.setKids (q.kids.filter fun k => !decide (k.id=id))) (treeV v)=z0q id (treeV v))
  (h:Chg m b (fun w g=>g.own=w.own/\g.kids=w.kids.filter fun k => !decide (k.own.id=id)) v v') :
  treeV v'=z0q id (treeV v)/\Upd n (b::z3i b (treeV v)) v v'/\n<=v'.num:=by
 have s:=h.hit;refine⟨?_,Upd.congr (m1:=zdv b v) (fun a e=>?_) fun i=>zf2 s i,Zx f h.root.1⟩
 ·rw[<-r];refine zi2 h l fun w _ g _ ⟨j,d⟩=>?_;rw[<-under_of,z3e g,z3e (V.mk _ _ _ _),j,d]
  rfl
 ·rcases zeo (New:=fun _=>False) h l (fun a e=>ZE (z61 o a e) f) (fun w _ g _ ⟨_,d⟩ c hc a e=>.inl ⟨c,(YD.1 (d ▸ hc)).1,e⟩) a e with ⟨j,d⟩|⟨j,d,p⟩|h
  ·exact .inr ⟨by omega,.inl d⟩
  ·exact .inl ⟨z61 o a d,d,p⟩
  ·exact h.elim
theorem zm4:∀t:T,∀y∈z0c t,∀z∈z0c y,z∈z0c t:=by
 refine z4a fun t c y hy z b=>?_;rw[z1l,Z5]at hy;rcases hy with rfl|hy
 ·exact b
 ·obtain⟨k,a,hy⟩:=Z9.1 hy;exact z31 a (c k a y hy z b)
theorem ids_subT(t y:T)(a:y∈z0c t)(i:Idv)(hi:i∈idsT y):i∈idsT t:=by
 obtain⟨z,b,rfl⟩:=Z6.1 hi;exact Z6.2 ⟨z,zm4 t y a z b,rfl⟩
theorem way_below{k:Idv}:∀u:T,∀y∈z27 k u,k∈idsT y:=by
 refine z4a fun u e y hy=>?_;have a:z27 k u ≠ []:=List.ne_nil_of_mem hy
 by_cases b:u.id=k
 ·rw[z4m b,Zn]at hy;subst hy;rw[<-b];exact z1b _
 ·obtain⟨i,d,f,g,c⟩:=z8w b a;rw[c,Z5]at hy;rcases hy with rfl|hy
  ·exact z4s.1 a
  ·exact e _ (Z8 d) y hy
theorem anc_out{u:T}{id k:Idv}(r:(idsT u).Nodup)(q:k∈idsT u)(c:id∈idsT u)(s:k∉idsT (z07 id u).1):∀i∈k::z3i k u,i∉idsT (z07 id u).1:=by
 intro i hi m;have a:(z07 id u).2=true:=by rw[z1y,decide_eq_true c]
 have p:i∈idsT u:=zx8 i m a
 -- k is below i
 obtain⟨y,b,e⟩:∃y∈z27 k u,y.id=i:=by
  have d:=z4s.2 q;rcases Z5.1 hi with rfl|hi
  ·exact⟨_,Z8 _,zof i u d⟩
  ·unfold z3i at hi;rw[Yz]at hi;obtain⟨y,b,e⟩:=Z6.1 hi;exact⟨y,(List.dropLast_sublist _).subset b,e⟩
 have g:=way_below u y b
 -- y is the node of i,that lies below x
 obtain⟨z,n,o⟩:=Z6.1 m;have h:=zah k u y b;have l:z∈z0c u:=zm4 u _ (z4r a) z n;have j:y=z:=zbv (f:=T.id) r y h z l (e.trans o.symm);subst j;exact s (ids_subT _ y n k g)
theorem ztx:∀v:V,∀x∈nodesV v,∀a∈nodesV x,a∈nodesV v:=by
 refine zgg fun v d x hx a b=>?_;rw[z41,Z5]at hx;rcases hx with rfl|hx
 ·exact b
 ·obtain⟨k,c,hx⟩:=Z9.1 hx;exact z36 c (d k c x hx a b)
theorem upd_mov{m n m2 n2 at_:Nat}{id e b:Idv}{v r v' x:V}(R:standsT (treeV v)=true)(Q:¬(treeV v).id=id)(q:id∈idsT (treeV v))(M:b∈idsT (treeV v))(o:b∉idsT (z07 id (treeV v)).1)
  (G:z3i id (treeV v)=e::z3i e (treeV v)) (F:e∈idsT (treeV v)) (I:e∉idsT (z07 id (treeV v)).1)
  (N:treeV x=(z07 id (treeV v)).1) (J:x∈nodesV v) (Y:Under n v) (W:n<=m) (X:treeV r=z0q id (treeV v)/\Upd n (e::z3i e (treeV v)) v r/\n<=r.num) (t:(idsT (treeV r)).Nodup)
  (H:Under n2 r) (E:n<=n2) (l:n2<=m2) (h:Chg m2 b (fun w w'=>w'.own=w.own/\w'.kids=w.kids.take at_++x::w.kids.drop at_) r v') :
  treeV v'=z10 b (z4u at_ (z07 id (treeV v)).1) (z0q id (treeV v))/\Upd n (z3i id (treeV v)++b::z3i b (treeV v)) v v'/\n<=v'.num:=by
 have C:=z1f R;obtain⟨O,o2,o3⟩:=X;have L:=h.hit;have k:z3i b (treeV r)=z3i b (treeV v):=by
  rw[O];exact zvd (treeV v) C Q M fun y Z=>by rw[Z]at o;exact o
 refine⟨?_,fun a f=>?_,Zx (Zx E l) h.root.1⟩
 ·rw[<-O];refine zi2 h t fun w _ w' _ ⟨B,j⟩=>?_;rw[z3e w',z3e w,B,j];unfold z4u;show w.own.setKids _=w.own.setKids (Y9 at_ (w.kids.map treeV)++(z07 id (treeV v)).1::YQ at_ (w.kids.map treeV));rw[Zo,Zc,N,YI,YJ]
 ·have u:∀a∈nodesV x,a.own.id∈idsT (z07 id (treeV v)).1:=fun a f=>by
   rw[<-N,z81];exact Z6.2 ⟨a,f,rfl⟩
  have U:∀w∈nodesV r,∀w':V,w.own.id=b->(w'.own=w.own/\w'.kids=w.kids.take at_++x::w.kids.drop at_)->∀c∈w'.kids,∀a∈nodesV c,(∃d∈w.kids,a∈nodesV d) \/ a∈nodesV x:=by
   intro w _ w' _ ⟨_,j⟩ c hc a f;rw[j,Z7,Z5]at hc;rcases hc with hc|rfl|hc
   ·exact .inl ⟨c,Zr hc,f⟩
   ·exact .inr f
   ·exact .inl ⟨c,Zq hc,f⟩
  have s:∀i,i∈z3i id (treeV v)++b::z3i b (treeV v) ↔ i∈e::z3i e (treeV v) \/ i∈b::z3i b (treeV v):=fun i=>by rw[Z7,G]
  rw[s];rcases zeo (New:=fun a=>a∈nodesV x) h t (fun a f=>ZE (z61 H a f) l) U a f with ⟨B,j⟩|⟨B,j,K⟩|g
  ·rw[zf2 L,k]at j;exact .inr ⟨by omega,.inl (.inr j)⟩
  ·rw[zf2 L,k]at K;rcases o2 a j with ⟨z,A,P⟩|⟨z,A⟩
   ·exact .inl ⟨z,A,fun h=>h.elim P K⟩
   ·exact .inr ⟨z,A.imp .inl _root_.id⟩
  ·have p:a∈nodesV v:=by
    have:=ztx v x J a g;exact this
   refine .inl ⟨z61 Y a p,p,fun h=>?_⟩;rcases h with h|h
   ·exact anc_out C F q I _ h (u a g)
   ·exact anc_out C M q o _ h (u a g)
end Tr
end
section
open Abs Facts Tr
attribute [local irreducible] awp
set_option maxRecDepth 100000
theorem zhz{k n:Nat}(h:k<n):(n==n+1)=false/\(n==n+2)=false/\(n==n+3)=false/\(n==n+4)=false/\(n==n+5)=false/\(n==n+6)=false/\(n==n+7)=false/\(n==n+8)=false/\(n==n+9)=false/\(n+1==n)=false/\(n+1==n+2)=false/\(n+1==n+3)=false/\(n+1==n+4)=false/\(n+1==n+5)=false/\(n+1==n+6)=false/\(n+1==n+7)=false/\(n+1==n+8)=false/\(n+1==n+9)=false/\(n+2==n)=false/\(n+2==n+1)=false/\(n+2==n+3)=false/\(n+2==n+4)=false/\(n+2==n+5)=false/\(n+2==n+6)=false/\(n+2==n+7)=false/\(n+2==n+8)=false/\(n+2==n+9)=false/\(n+3==n)=false/\(n+3==n+1)=false/\(n+3==n+2)=false/\(n+3==n+4)=false/\(n+3==n+5)=false/\(n+3==n+6)=false/\(n+3==n+7)=false/\(n+3==n+8)=false/\(n+3==n+9)=false/\(n+4==n)=false/\(n+4==n+1)=false/\(n+4==n+2)=false/\(n+4==n+3)=false/\(n+4==n+5)=false/\(n+4==n+6)=false/\(n+4==n+7)=false/\(n+4==n+8)=false/\(n+4==n+9)=false/\(n+5==n)=false/\(n+5==n+1)=false/\(n+5==n+2)=false/\(n+5==n+3)=false/\(n+5==n+4)=false/\(n+5==n+6)=false/\(n+5==n+7)=false/\(n+5==n+8)=false/\(n+5==n+9)=false/\(n+6==n)=false/\(n+6==n+1)=false/\(n+6==n+2)=false/\(n+6==n+3)=false/\(n+6==n+4)=false/\(n+6==n+5)=false/\(n+6==n+7)=false/\(n+6==n+8)=false/\(n+6==n+9)=false/\(n+7==n)=false/\(n+7==n+1)=false/\(n+7==n+2)=false/\(n+7==n+3)=false/\(n+7==n+4)=false/\(n+7==n+5)=false/\(n+7==n+6)=false/\(n+7==n+8)=false/\(n+7==n+9)=false/\(n+8==n)=false/\(n+8==n+1)=false/\(n+8==n+2)=false/\(n+8==n+3)=false/\(n+8==n+4)=false/\(n+8==n+5)=false/\(n+8==n+6)=false/\(n+8==n+7)=false/\(n+8==n+9)=false/\(n+9==n)=false/\(n+9==n+1)=false/\(n+9==n+2)=false/\(n+9==n+3)=false/\(n+9==n+4)=false/\(n+9==n+5)=false/\(n+9==n+6)=false/\(n+9==n+7)=false/\(n+9==n+8)=false/\(k==n)=false/\(n==k)=false/\(k==n+1)=false/\(n+1==k)=false/\(k==n+2)=false/\(n+2==k)=false/\(k==n+3)=false/\(n+3==k)=false/\(k==n+4)=false/\(n+4==k)=false/\(k==n+5)=false/\(n+5==k)=false/\(k==n+6)=false/\(n+6==k)=false/\(k==n+7)=false/\(n+7==k)=false/\(k==n+8)=false/\(n+8==k)=false/\(k==n+9)=false/\(n+9==k)=false:=by
 refine⟨?_,?_,?_,?_,?_,?_,?_,?_,?_,?_,?_,?_,?_,?_,?_,?_,?_,?_,?_,?_,?_,?_,?_,?_,?_,?_,?_,?_,?_,?_,?_,?_,?_,?_,?_,?_,?_,?_,?_,?_,?_,?_,?_,?_,?_,?_,?_,?_,?_,?_,?_,?_,?_,?_,?_,?_,?_,?_,?_,?_,?_,?_,?_,?_,?_,?_,?_,?_,?_,?_,?_,?_,?_,?_,?_,?_,?_,?_,?_,?_,?_,?_,?_,?_,?_,?_,?_,?_,?_,?_,?_,?_,?_,?_,?_,?_,?_,?_,?_,?_,?_,?_,?_,?_,?_,?_,?_,?_,?_,?_⟩<;>exact zdt (by omega)
structure UpdOK (e:Int) (u':T) (made:List Idv) (v:V) (H:HM) (n:Nat) (o:D×HM×Nat):Prop where
 le:n<=o.2.2
 agree:Agree n H o.2.1
 bad:e≠0->o.1=.tup [.nptr,.int .i64 e]
 good:e=0->∃v' t,o.1=.tup [.ptr t 0,.int .i64 0]/\n<=t/\t<o.2.2/\o.2.1 t=some (treeB (.ptr v'.num 0))/\Stand o.2.1 v'/\Under o.2.2 v'/\treeV v'=u'/\Upd n made v v'/\n<=v'.num
theorem zi0{v w:V}(b:szB (treeV v)=true)(c:w∈nodesV v):w.kids.length<=1000000:=by
 obtain⟨_,_,_,_,_,a,_⟩:=(z1k _).1 (sz_node v b w c);rw[z26,Zk]at a;exact a
def zn3:List D:=[.int .i64 0,.int .i64 0,.int .i64 0,.int .i64 0,.str Ye,.nil,.nil,.nil]
section
variable {H:HM}{n tb:Nat}{v:V}
theorem zef(k:szB (treeV v)=true)(c:tb<n)(g:H tb=some (treeB (.ptr v.num 0)))(f:Under n v)(b:Stand H v){st:St}{H2:HM}{n2:Nat}(d:zfa st H2 n2)(i:n<=st.nx)(a:Agree n H st.H):RC prog 11 [.ptr tb 0] H2 n2 (z0o (treeV v)):=by
 have e:Agree n H H2:=fun j h=>(d.2 j (by omega)).trans (a j h);have:=d.1;exact znq k (by omega) (by rw[e _ c];exact g) (f.le (by omega)) (Stand.agree e v f b)
theorem zxm(I:szB (treeV v)=true)(O:cntT (treeV v)<=1000000)(hd:depT (treeV v)<=1000000)(hn:(idsT (treeV v)).Nodup)(l:tb<n)(hH:H tb=some (treeB (.ptr v.num 0)))(J:Under n v)(B:Stand H v)
  (x:T) (C:szB x=true) (P:cntT x<=1000000) (R:depT x<=1000000) (a:Idv) (i:Int) :
  Det 42 [.ptr tb 0,z0z a,.int .i64 i,z0o x] H n (UpdOK (z4q (treeV v) a i x) (z10 a (z4u i.toNat x) (treeV v)) (a::z3i a (treeV v)) v H n):=by
 have L:=pc_Insert (treeV v) x I C O P hd R a i;obtain⟨e,G⟩:∃e,e=z4q (treeV v) a i x:=⟨_,rfl⟩
 rw[<-G]at L⊢;generalize (if e≠0 then T.zero else z10 a (z4u i.toNat x) (treeV v))=y at L;obtain⟨q,f⟩:∃q,q=z0m (z0m (z0m H n (some (idB a))) (n+1) (some (.box 3 [.int .i64 i]))) (n+2) (some (unitB x)):=⟨_,rfl⟩
 obtain⟨r,u⟩:∃r,r=z0m (z0m q (n+3) (some (.box 27 zn3))) (n+3) (some (unitB y)):=⟨_,rfl⟩
 have c:Agree n H q:=fun j p=>by rw[f,z03 _ (by omega),z03 _ (by omega),z03 _ (by omega)]
 have b:∀j,j<n+3->r j=q j:=fun j p=>by rw[u,z03 _ (by omega),z03 _ (by omega)]
 have A:=z69 l
 have N:=ziq (e:=e) (g:=98) (cap:=[.ptr (n+1) 0,.ptr (n+2) 0]) (lo:=n+4) (id:=a) (E:=insE i.toNat x) (Q:=fun w w'=>w'.own=w.own/\∃g,treeV g=x/\(objsV g).Nodup/\(∀j∈objsV g,n+4<=j)/\w'.kids=zvy i.toNat g w) (H0:=r) (H:=r) (n:=n+4) (tb:=tb) (v:=v)
  (by omega) (by rw[b _ (by omega),c _ l];exact hH) I (fun s w hw X=>by
   obtain⟨_,_,m,z,U⟩:=z9d (G.symm.trans s);have hk:=U (treeV w) (by rw[z72];exact Z6.2 ⟨w,hw,rfl⟩) (by rw[z37];exact X);rw[z26,Zk]at hk;have k:i.toNat=m:=by rw[z];rfl
   refine⟨do_ins C ?_ (by omega) ?_ (by omega) (by omega) (zi0 I hw),eff_ins⟩
   ·rw[b _ (by omega),f,z03 _ (by omega),z3k,k,z]
   ·rw[b _ (by omega),f,z3k]) (Zd _) (Agree.refl _ _) (Stand.agree (n:=n) (fun j p=>by rw[b j (by omega),c j p]) v J B) (J.le (by omega))
 obtain⟨o,M,d⟩:=N;refine⟨o,?_,⟨by have:=d.le;omega,fun j p=>by rw[d.agree j (by omega),b j (by omega),c j p],d.bad,fun s=>?_⟩⟩
 ·refine(zqzj [11000014,3000015,3000016,3000017,5000018] func42 rfl (by decide+kernel) rfl ?_)
  repeat'(first|((first|refine zqh fun K h=>?_|refine zqe (by decide+kernel) fun K h=>?_);simp(disch:=omega)only[go_sem,Z0,z0z,z0a])|(refine h _ ?_;clear h K))
  refine zfj (fun H2 n2 h2=>zef I l hH J B h2 (by(simp(disch:=omega)only[go_sem]);omega) fun j p=>by(simp(disch:=omega)only[go_sem]);simp(disch:=omega)only[z40]) rfl ?_;(try(simp(disch:=omega)only[go_sem,Z0,Z4,↓reduceIte,Z2,Z1,A]));repeat'(first|((first|refine zqh fun K h=>?_|refine zqt (L) ?_);simp(disch:=omega)only[go_sem,Z0,Z4,↓reduceIte,Z2,Z1,A])|(refine h _ ?_;clear h K))
  subst u;subst f;refine z2i (M.mono fun r' H' n' ⟨Y,e2,e3⟩=>?_);rcases d.shape with ⟨t,hd1⟩|hd1
  all_goals
   rw[hd1]at Y;subst Y;subst e2;subst e3;(try(simp(disch:=omega)only[go_sem,Z0]));repeat'(first|refine nxt ?_|refine zqU ?_|(refine h _ ?_;clear h K))
   rw[hd1];simp(disch:=omega)only[go_sem,Z0]
 ·obtain⟨_,W,m,z,_⟩:=z9d (G.symm.trans s);obtain⟨v',t,g1,g2,g3,g4,Z,g6,g7⟩:=d.good s W;have k:i.toNat=m:=by rw[z];rfl
  have F:=G.symm.trans s;rw[z]at F;rw[k]at Z⊢;obtain⟨k1,k2,k3⟩:=upd_ins (n:=n) (m:=n+4) (lo:=n+4) F hn J (by omega) (by omega) Z;exact⟨v',t,g1,by omega,g3,g4,g6,g7,k1,k2,k3⟩
theorem rel_ok{u:T}{id:Idv}{a:ByteArray}(h:znc u id a=0):standsT u=true/\id∈idsT u/\True:=by
 unfold znc at h;split at h
 ·cases h
 rename_i c;split at h
 ·cases h
 rename_i b;refine⟨?_,?_,trivial⟩
 ·cases d:standsT u with
  |true=>rfl
  |false=>exact absurd (.inl d) c
 ·rw[z1y]at b
  simpa using b
theorem zt1(L:szB (treeV v)=true)(G:cntT (treeV v)<=1000000)(hd:depT (treeV v)<=1000000)(hn:(idsT (treeV v)).Nodup)(k:tb<n)(N:H tb=some (treeB (.ptr v.num 0)))(z:Under n v)(x:Stand H v)
  (id:Idv) (a:ByteArray) (I:a.size<=1000000) :
  Det 46 [.ptr tb 0,z0z id,.str a] H n (UpdOK (znc (treeV v) id a) (z10 id (fun q=>q.setLabel a) (treeV v)) (id::z3i id (treeV v)) v H n):=by
 have A:=zy1 (treeV v) L G hd id a I;obtain⟨e,O⟩:∃e,e=znc (treeV v) id a:=⟨_,rfl⟩
 rw[<-O]at A⊢;generalize (if e=0 then z10 id (fun q=>q.setLabel a) (treeV v) else T.zero)=y at A;obtain⟨p,i⟩:∃p,p=z0m (z0m H n (some (idB id))) (n+1) (some (.box 9 [.str a])):=⟨_,rfl⟩
 obtain⟨r,s⟩:∃r,r=z0m (z0m p (n+2) (some (.box 27 zn3))) (n+2) (some (unitB y)):=⟨_,rfl⟩
 have c:Agree n H p:=fun j l=>by rw[i,z03 _ (by omega),z03 _ (by omega)]
 have b:∀j,j<n+2->r j=p j:=fun j l=>by rw[s,z03 _ (by omega),z03 _ (by omega)]
 have u:=z69 k
 have F:=ziq (e:=e) (g:=107) (cap:=[.ptr (n+1) 0]) (lo:=n+3) (id:=id) (E:=fldE fun q=>q.setLabel a) (Q:=fun w P=>P.own=w.own.setLabel a/\P.kids=w.kids) (H0:=r) (H:=r) (n:=n+3) (tb:=tb) (v:=v)
  (by omega) (by rw[b _ (by omega),c _ k];exact N) L (fun B w hw a0=>⟨do_rel (by rw[b _ (by omega),i,z3k]) (by omega),zth (f:=fun q=>q.setLabel a) (fun q=>⟨rfl,rfl⟩)⟩) (Zd _) (Agree.refl _ _) (Stand.agree (n:=n) (fun j l=>by rw[b j (by omega),c j l]) v z x) (z.le (by omega))
 obtain⟨o,C,d⟩:=F;refine⟨o,?_,⟨by have:=d.le;omega,fun j l=>by rw[d.agree j (by omega),b j (by omega),c j l],d.bad,fun B=>?_⟩⟩
 ·refine(zqzj [11000012,3000013,3000014,5000015] func46 rfl (by decide+kernel) rfl ?_)
  repeat'(first|((first|refine zqh fun K h=>?_|refine zqe (by decide+kernel) fun K h=>?_);simp(disch:=omega)only[go_sem,Z0,z0z,z0a])|(refine h _ ?_;clear h K))
  refine zfj (fun H2 n2 h2=>zef L k N z x h2 (by(simp(disch:=omega)only[go_sem]);omega) fun j l=>by(simp(disch:=omega)only[go_sem]);simp(disch:=omega)only[z40]) rfl ?_;(try(simp(disch:=omega)only[go_sem,Z0,Z4,↓reduceIte,Z2,Z1,u]));repeat'(first|((first|refine zqh fun K h=>?_|refine zqt (A) ?_);simp(disch:=omega)only[go_sem,Z0,Z4,↓reduceIte,Z2,Z1,u])|(refine h _ ?_;clear h K))
  subst s;subst i;refine z2i (C.mono fun r' H' n' ⟨M,e2,e3⟩=>?_);rcases d.shape with ⟨t,hd1⟩|hd1
  all_goals
   rw[hd1]at M;subst M;subst e2;subst e3;(try(simp(disch:=omega)only[go_sem,Z0]));repeat'(first|refine nxt ?_|refine zqU ?_|(refine h _ ?_;clear h K))
   rw[hd1];simp(disch:=omega)only[go_sem,Z0]
 ·obtain⟨_,J,_⟩:=rel_ok (O.symm.trans B);obtain⟨v',t,R,g2,U,W,X,Y,Z⟩:=d.good B J;obtain⟨k1,k2,k3⟩:=ztw (n:=n) (m:=n+3) (f:=fun q=>q.setLabel a) (fun _ _=>rfl) (fun _=>rfl) hn z (by omega) X;exact⟨v',t,R,by omega,U,W,Y,Z,k1,k2,k3⟩
theorem zgx(J:szB (treeV v)=true)(G:cntT (treeV v)<=1000000)(hd:depT (treeV v)<=1000000)(hn:(idsT (treeV v)).Nodup)(i:tb<n)(M:H tb=some (treeB (.ptr v.num 0)))(z:Under n v)(x:Stand H v)
  (id:Idv) (l:List Wd) (O:l.length<=1000000) (P:∀w∈l,w.text.size<=maxLen) :
  Det 50 [.ptr tb 0,z0z id,z0f l] H n (UpdOK (z4o (treeV v) id l) (z10 id (fun q=>q.setWords l) (treeV v)) (id::z3i id (treeV v)) v H n):=by
 have A:=ztu (treeV v) J G hd id l O P;obtain⟨e,N⟩:∃e,e=z4o (treeV v) id l:=⟨_,rfl⟩
 rw[<-N]at A⊢;generalize (if e=0 then z10 id (fun q=>q.setWords l) (treeV v) else T.zero)=y at A;obtain⟨p,h⟩:∃p,p=z0m (z0m H n (some (idB id))) (n+1) (some (.box 24 [z0f l])):=⟨_,rfl⟩
 obtain⟨r,s⟩:∃r,r=z0m (z0m p (n+2) (some (.box 27 zn3))) (n+2) (some (unitB y)):=⟨_,rfl⟩
 have b:Agree n H p:=fun j k=>by rw[h,z03 _ (by omega),z03 _ (by omega)]
 have a:∀j,j<n+2->r j=p j:=fun j k=>by rw[s,z03 _ (by omega),z03 _ (by omega)]
 have u:=z69 i
 have F:=ziq (e:=e) (g:=113) (cap:=[.ptr (n+1) 0]) (lo:=n+3) (id:=id) (E:=fldE fun q=>q.setWords l) (Q:=fun w R=>R.own=w.own.setWords l/\R.kids=w.kids) (H0:=r) (H:=r) (n:=n+3) (tb:=tb) (v:=v)
  (by omega) (by rw[a _ (by omega),b _ i];exact M) J (fun B w P a0=>⟨do_words O (by rw[a _ (by omega),h,z3k]) (by omega),zth (f:=fun q=>q.setWords l) (fun q=>⟨rfl,rfl⟩)⟩) (Zd _) (Agree.refl _ _) (Stand.agree (n:=n) (fun j k=>by rw[a j (by omega),b j k]) v z x) (z.le (by omega))
 obtain⟨o,C,c⟩:=F;refine⟨o,?_,⟨by have:=c.le;omega,fun j k=>by rw[c.agree j (by omega),a j (by omega),b j k],c.bad,fun B=>?_⟩⟩
 ·refine(zqzj [11000012,3000013,3000014,5000015] func50 rfl (by decide+kernel) rfl ?_)
  repeat'(first|((first|refine zqh fun K d=>?_|refine zqe (by decide+kernel) fun K d=>?_);simp(disch:=omega)only[go_sem,Z0,z0z,z0a])|(refine d _ ?_;clear d K))
  refine zfj (fun H2 n2 h2=>zef J i M z x h2 (by(simp(disch:=omega)only[go_sem]);omega) fun j k=>by(simp(disch:=omega)only[go_sem]);simp(disch:=omega)only[z40]) rfl ?_;(try(simp(disch:=omega)only[go_sem,Z0,Z4,↓reduceIte,Z2,Z1,u]));repeat'(first|((first|refine zqh fun K d=>?_|refine zqt (A) ?_);simp(disch:=omega)only[go_sem,Z0,Z4,↓reduceIte,Z2,Z1,u])|(refine d _ ?_;clear d K))
  subst s;subst h;refine z2i (C.mono fun r' H' n' ⟨L,e2,e3⟩=>?_);rcases c.shape with ⟨t,hd1⟩|hd1
  all_goals
   rw[hd1]at L;subst L;subst e2;subst e3;(try(simp(disch:=omega)only[go_sem,Z0]));repeat'(first|refine nxt ?_|refine zqU ?_|(refine d _ ?_;clear d K))
   rw[hd1];simp(disch:=omega)only[go_sem,Z0]
 ·obtain⟨_,I,_⟩:=zd0 (N.symm.trans B);obtain⟨v',t,U,g2,W,X,Y,Z,g7⟩:=c.good B I;obtain⟨k1,k2,k3⟩:=ztw (n:=n) (m:=n+3) (f:=fun q=>q.setWords l) (fun _ _=>rfl) (fun _=>rfl) hn z (by omega) Y;exact⟨v',t,U,by omega,W,X,Z,g7,k1,k2,k3⟩
theorem zl3(J:szB (treeV v)=true)(G:cntT (treeV v)<=1000000)(hd:depT (treeV v)<=1000000)(hn:(idsT (treeV v)).Nodup)(i:tb<n)(M:H tb=some (treeB (.ptr v.num 0)))(z:Under n v)(x:Stand H v)
  (id:Idv) (l:List Wd) (O:l.length<=1000000) (P:∀w∈l,w.text.size<=maxLen) :
  Det 47 [.ptr tb 0,z0z id,z0f l] H n (UpdOK (z4o (treeV v) id l) (z10 id (fun q=>q.setHead l) (treeV v)) (id::z3i id (treeV v)) v H n):=by
 have A:=znm (treeV v) J G hd id l O P;obtain⟨e,N⟩:∃e,e=z4o (treeV v) id l:=⟨_,rfl⟩
 rw[<-N]at A⊢;generalize (if e=0 then z10 id (fun q=>q.setHead l) (treeV v) else T.zero)=y at A;obtain⟨p,h⟩:∃p,p=z0m (z0m H n (some (idB id))) (n+1) (some (.box 24 [z0f l])):=⟨_,rfl⟩
 obtain⟨r,s⟩:∃r,r=z0m (z0m p (n+2) (some (.box 27 zn3))) (n+2) (some (unitB y)):=⟨_,rfl⟩
 have b:Agree n H p:=fun j k=>by rw[h,z03 _ (by omega),z03 _ (by omega)]
 have a:∀j,j<n+2->r j=p j:=fun j k=>by rw[s,z03 _ (by omega),z03 _ (by omega)]
 have u:=z69 i
 have F:=ziq (e:=e) (g:=109) (cap:=[.ptr (n+1) 0]) (lo:=n+3) (id:=id) (E:=fldE fun q=>q.setHead l) (Q:=fun w R=>R.own=w.own.setHead l/\R.kids=w.kids) (H0:=r) (H:=r) (n:=n+3) (tb:=tb) (v:=v)
  (by omega) (by rw[a _ (by omega),b _ i];exact M) J (fun B w P a0=>⟨do_head O (by rw[a _ (by omega),h,z3k]) (by omega),zth (f:=fun q=>q.setHead l) (fun q=>⟨rfl,rfl⟩)⟩) (Zd _) (Agree.refl _ _) (Stand.agree (n:=n) (fun j k=>by rw[a j (by omega),b j k]) v z x) (z.le (by omega))
 obtain⟨o,C,c⟩:=F;refine⟨o,?_,⟨by have:=c.le;omega,fun j k=>by rw[c.agree j (by omega),a j (by omega),b j k],c.bad,fun B=>?_⟩⟩
 ·refine(zqzj [11000012,3000013,3000014,5000015] func47 rfl (by decide+kernel) rfl ?_)
  repeat'(first|((first|refine zqh fun K d=>?_|refine zqe (by decide+kernel) fun K d=>?_);simp(disch:=omega)only[go_sem,Z0,z0z,z0a])|(refine d _ ?_;clear d K))
  refine zfj (fun H2 n2 h2=>zef J i M z x h2 (by(simp(disch:=omega)only[go_sem]);omega) fun j k=>by(simp(disch:=omega)only[go_sem]);simp(disch:=omega)only[z40]) rfl ?_;(try(simp(disch:=omega)only[go_sem,Z0,Z4,↓reduceIte,Z2,Z1,u]));repeat'(first|((first|refine zqh fun K d=>?_|refine zqt (A) ?_);simp(disch:=omega)only[go_sem,Z0,Z4,↓reduceIte,Z2,Z1,u])|(refine d _ ?_;clear d K))
  subst s;subst h;refine z2i (C.mono fun r' H' n' ⟨L,e2,e3⟩=>?_);rcases c.shape with ⟨t,hd1⟩|hd1
  all_goals
   rw[hd1]at L;subst L;subst e2;subst e3;(try(simp(disch:=omega)only[go_sem,Z0]));repeat'(first|refine nxt ?_|refine zqU ?_|(refine d _ ?_;clear d K))
   rw[hd1];simp(disch:=omega)only[go_sem,Z0]
 ·obtain⟨_,I,_⟩:=zd0 (N.symm.trans B);obtain⟨v',t,U,g2,W,X,Y,Z,g7⟩:=c.good B I;obtain⟨k1,k2,k3⟩:=ztw (n:=n) (m:=n+3) (f:=fun q=>q.setHead l) (fun _ _=>rfl) (fun _=>rfl) hn z (by omega) Y;exact⟨v',t,U,by omega,W,X,Z,g7,k1,k2,k3⟩
theorem ac_out(id:Idv):AC prog 102 [z0z id] H n fun r b c=>r=.fn 178 [.ptr n 0]/\b=z0m H n (some (idB id))/\c=n+1:=by
 refine(zqzj [] func102 rfl (by decide+kernel) rfl ?_)
 repeat'(first|((refine zqh fun K a=>?_);simp(disch:=omega)only[go_sem,Z0,z0z,z0a])|refine nxt ?_|refine zqU ?_|(refine a _ ?_;clear a K))
 (simp(disch:=omega)only[go_sem,Z0])
 rfl
theorem zxn(A:szB (treeV v)=true)(R:cntT (treeV v)<=1000000)(hd:depT (treeV v)<=1000000)(J:(idsT (treeV v)).Nodup)(l:tb<n)(hH:H tb=some (treeB (.ptr v.num 0)))(C:Under n v)(B:Stand H v)(id:Idv) :
  Det 44 [.ptr tb 0,z0z id] H n (UpdOK (zdd (treeV v) id) (z0q id (treeV v)) (z3i id (treeV v)) v H n):=by
 have G:=pc_Remove (treeV v) A R hd id;have c2:=z9t (treeV v) (z7o _ A) (by omega) id;obtain⟨e,U⟩:∃e,e=zdd (treeV v) id:=⟨_,rfl⟩
 rw[<-U]at G⊢;generalize (if e=0 then z0q id (treeV v) else T.zero)=y at G;generalize (if e=0 then (z07 id (treeV v)).1 else T.zero)=z at G;obtain⟨a,c⟩:∃a,a=(z3c id (treeV v)).1:=⟨_,rfl⟩
 rw[<-c]at c2;obtain⟨L,r⟩:∃L,L=z0m (z0m (z0m H n (some (idB id))) (n+1) (some (.box 27 zn3))) (n+1) (some (unitB (treeV v))):=⟨_,rfl⟩
 obtain⟨M,s⟩:∃M,M=z0m (z0m (z0m (z0m L (n+2) (some (.box 27 zn3))) (n+3) (some (.box 27 zn3))) (n+2) (some (unitB y))) (n+3) (some (unitB z)):=⟨_,rfl⟩
 obtain⟨N,u⟩:∃N,N=z0m (z0m M (n+4) (some (.box 23 [.int .i64 0,.int .i64 0,.int .i64 0]))) (n+4) (some (idB a)):=⟨_,rfl⟩
 obtain⟨p,d⟩:∃p,p=z0m N (n+5) (some (idB id)):=⟨_,rfl⟩
 have h:∀j,j<n->p j=H j:=fun j i=>by
  rw[d,z03 _ (by omega),u,z03 _ (by omega),z03 _ (by omega),s,z03 _ (by omega),z03 _ (by omega),z03 _ (by omega),z03 _ (by omega),r,z03 _ (by omega),z03 _ (by omega),z03 _ (by omega)]
 have a1:=z69 l
 have P:=ziq (e:=e) (g:=178) (cap:=[.ptr (n+5) 0]) (lo:=n+6) (id:=a) (E:=outE id) (Q:=fun w w'=>w'.own=w.own/\w'.kids=outK id w) (H0:=p) (H:=p) (n:=n+6) (tb:=tb) (v:=v)
  (by omega) (by rw[h _ l];exact hH) A (fun I w hw Y=>by
   obtain⟨_,t2,t3⟩:=znp (U.symm.trans I);obtain⟨u2,F,q2,q3,q4,⟨q,q5,q6,k,q7,q8⟩,q9⟩:=zjm J t3 t2;rw[<-c]at F;subst F;have Z:treeV w=q:=zbv (f:=T.id) J _ (by rw[z72];exact Z6.2 ⟨w,hw,rfl⟩) _ q5 (by rw[z37,Y,q6]);have hk:∃k∈w.kids,k.own.id=id:=by
    rw[<-Z,z26]at q7;obtain⟨k2,W,rfl⟩:=Z6.1 q7;exact⟨k2,W,by rw[<-z37];exact q8⟩
   exact⟨do_out (by rw[d,z3k]) (by omega) hk (zi0 A hw),eff_out hk⟩) (Zd _) (Agree.refl _ _) (Stand.agree (n:=n) h v C B) (C.le (by omega))
 obtain⟨o,O,b⟩:=P;refine⟨o,?_,⟨by have:=b.le;omega,fun j i=>by rw[b.agree j (by omega),h j i],b.bad,fun I=>?_⟩⟩
 ·have cU:=znq A (n:=n+1) (H:=z0m H n (some (idB id))) (tb:=tb) (by omega) (by rw[z03 _ (by omega)];exact hH) (C.le (by omega)) (Stand.agree (n:=n) (fun j i=>z03 _ (by omega)) v C B);unfold idB at cU;refine(zqzj [3000031,3000032,4000033,10000033,4000034,10000034] func44 rfl (by decide+kernel) rfl ?_);have X:=zhz l
  repeat'(first|((first|refine zqh fun K x=>?_|refine zqe (by decide+kernel) fun K x=>?_|refine z20 (cU) ?_|refine zqs (G) ?_|refine zqs (c2) ?_);simp(disch:=omega)only[go_sem,Z0,Z4,↓reduceIte,Z2,Z1,X,z0z,z0a])|(refine x _ ?_;clear x K))
  refine z4p (ac_out id) rfl rfl rfl ⟨YO _,fun j i=>z03 _ (YL i)⟩ ?_;(try(simp(disch:=omega)only[go_sem,Z0]));repeat' skip
  subst d;subst u;subst s;subst r;have a0:=b.le;refine z4p O rfl rfl rfl ⟨by(simp(disch:=omega)only[go_sem]);omega,fun j i=>b.agree j i⟩ ?_;rcases b.shape with ⟨t,hd1⟩|hd1
  all_goals
   rw[hd1];(try(simp(disch:=omega)only[go_sem,Z0]));repeat'(first|refine nxt ?_|refine zqU ?_|(refine x _ ?_;clear x K))
   rw[hd1];simp(disch:=omega)only[go_sem,Z0]
 ·obtain⟨_,t2,t3⟩:=znp (U.symm.trans I);obtain⟨u2,F,q2,q3,q4,_,q9⟩:=zjm J t3 t2;rw[<-c]at F;subst F;obtain⟨v',t,g1,g2,g3,g4,g5,g6,g7⟩:=b.good I q2;obtain⟨k1,k2,k3⟩:=upd_out (n:=n) (m:=n+6) J C (by omega) q9 g5;exact⟨v',t,g1,by omega,g3,g4,g6,g7,k1,by rw[q3];exact k2,k3⟩
end
end
section
open Abs Facts Tr
attribute [local irreducible] awp
set_option maxRecDepth 100000
section
variable {H:HM}{n tb:Nat}{v:V}
theorem det_Move(Y:szB (treeV v)=true)(b4:cntT (treeV v)<=1000000)(hd:depT (treeV v)<=1000000)(hn:(idsT (treeV v)).Nodup)(Z:tb<n)(hH:H tb=some (treeB (.ptr v.num 0)))(I:Under n v)(M:Stand H v)(id a:Idv)(i:Int) :
  Det 45 [.ptr tb 0,z0z id,z0z a,.int .i64 i] H n (UpdOK (z7r (treeV v) id a i) (z10 a (z4u i.toNat (z07 id (treeV v)).1) (z0q id (treeV v))) (z3i id (treeV v)++a::z3i a (treeV v)) v H n):=by
 have c1:=pc_Move (treeV v) Y b4 hd id a i;have c2:=z9t (treeV v) (z7o _ Y) (by omega) id;obtain⟨e,he⟩:∃e,e=z7r (treeV v) id a i:=⟨_,rfl⟩
 rw[<-he]at c1⊢;generalize (if e=0 then z10 a (z4u i.toNat (z07 id (treeV v)).1) (z0q id (treeV v)) else T.zero)=y at c1;obtain⟨c,R⟩:∃c,c=(z3c id (treeV v)).1:=⟨_,rfl⟩
 rw[<-R]at c2;obtain⟨Ha,F⟩:∃Ha,Ha=z0m (z0m (z0m H n (some (idB id))) (n+1) (some (idB a))) (n+2) (some (.box 3 [.int .i64 i])):=⟨_,rfl⟩
 have G:Agree n H Ha:=fun j o=>by rw[F,z03 _ (by omega),z03 _ (by omega),z03 _ (by omega)]
 have cU:=znq Y (n:=n+3) (H:=Ha) (tb:=tb) (by omega) (by rw[G _ Z];exact hH) (I.le (by omega)) (Stand.agree G v I M);obtain⟨H1,A⟩:∃H1,H1=z0m (z0m Ha (n+3) (some (.box 27 zn3))) (n+3) (some (unitB (treeV v))):=⟨_,rfl⟩
 obtain⟨H2,B⟩:∃H2,H2=z0m (z0m H1 (n+4) (some (.box 27 zn3))) (n+4) (some (unitB y)):=⟨_,rfl⟩
 have P:Agree n H H2:=fun j o=>by
  rw[B,z03 _ (by omega),z03 _ (by omega),A,z03 _ (by omega),z03 _ (by omega)];exact G j o
 have L:=zhz Z
 by_cases h0:e=0
 ·obtain⟨m1,m2,m3,m4,m5,m6⟩:=zca (he.symm.trans h0);obtain⟨u2,q1,q2,q3,q4,⟨q,q5,q6,k,q7,q8⟩,q9⟩:=zjm hn m4 m2;rw[<-R]at q1;subst q1;obtain⟨x,N,c3,b5,b8⟩:∃x∈nodesV v,x.own.id=id/\zb2 id v=.ptr x.num 0/\z07 id (treeV v)=(treeV x,true):=by
   rcases zyj hn id with ⟨_,hf⟩|h
   ·have:=z1y (id:=id) (u:=treeV v);rw[hf,decide_eq_true m2]at this;cases this
   ·exact h
  obtain⟨H3,J⟩:∃H3,H3=z0m (z0m H2 (n+5) (some (.box 23 [.int .i64 0,.int .i64 0,.int .i64 0]))) (n+5) (some (idB c)):=⟨_,rfl⟩
  have a6:Agree n H H3:=fun j o=>by rw[J,z03 _ (by omega),z03 _ (by omega)];exact P j o
  have cF:∀(W:HM) (n':Nat),n<=n'->Agree n H W->RC prog 104 [.ptr v.num 0,z0z id] W n' (.ptr x.num 0):=fun W n' X ha=>by
   have:=rc_find id v Y W n' (I.le X) (Stand.agree ha v I M);rw[b5]at this;exact this
  obtain⟨H4,C⟩:∃H4,H4=z0m (z0m H3 (n+6) (some (.box 70 [.nptr]))) (n+6) (some (.box 70 [.ptr x.num 0])):=⟨_,rfl⟩
  obtain⟨O,z⟩:∃O,O=z0m H4 (n+7) (some (idB id)):=⟨_,rfl⟩
  have s:Agree n H O:=fun j o=>by rw[z,z03 _ (by omega),C,z03 _ (by omega),z03 _ (by omega)];exact a6 j o
  have a1:O (n+2)=some (.box 3 [.int .i64 i]):=by
   rw[z,z03 _ (by omega),C,z03 _ (by omega),z03 _ (by omega),J,z03 _ (by omega),z03 _ (by omega),B,z03 _ (by omega),z03 _ (by omega),A,z03 _ (by omega),z03 _ (by omega),F,z3k]
  have a3:O (n+1)=some (idB a):=by
   rw[z,z03 _ (by omega),C,z03 _ (by omega),z03 _ (by omega),J,z03 _ (by omega),z03 _ (by omega),B,z03 _ (by omega),z03 _ (by omega),A,z03 _ (by omega),z03 _ (by omega),F,z03 _ (by omega),z3k]
  have a2:O (n+6)=some (.box 70 [.ptr x.num 0]):=by rw[z,z03 _ (by omega),C,z3k]
  -- the unit is taken out
  have b3:=ziq (e:=0) (g:=178) (cap:=[.ptr (n+7) 0]) (lo:=n+8) (id:=c) (E:=outE id) (Q:=fun w w'=>w'.own=w.own/\w'.kids=outK id w) (H0:=O) (H:=O) (n:=n+8) (tb:=tb) (v:=v)
   (by omega) (by rw[s _ Z];exact hH) Y (fun _ w hw a0=>by
    have b9:treeV w=q:=zbv (f:=T.id) hn _ (by rw[z72];exact Z6.2 ⟨w,hw,rfl⟩) _ q5 (by rw[z37,a0,q6]);have hk:∃k∈w.kids,k.own.id=id:=by
     rw[<-b9,z26]at q7;obtain⟨k2,b6,rfl⟩:=Z6.1 q7;exact⟨k2,b6,by rw[<-z37];exact q8⟩
    exact⟨do_out (by rw[z,z3k]) (by omega) hk (zi0 Y hw),eff_out hk⟩) (Zd _) (Agree.refl _ _) (Stand.agree s v I M) (I.le (by omega))
  obtain⟨U,a4,b⟩:=b3;obtain⟨r,t1,g1,g2,g3,g4,g5,g6,g7⟩:=b.good rfl q2;have l:=upd_out (n:=n) (m:=n+8) hn I (by omega) q9 g5;obtain⟨⟨_,w2,w3,_⟩,w5,m,hi,X⟩:=z9d m6;have a9:szB (treeV r)=true:=by rw[l.1];exact zol _ Y
  have b7:(idsT (treeV r)).Nodup:=by rw[l.1];exact z1f (by assumption)
  have a8:i.toNat=m:=by rw[hi];rfl
  have c0:=b.le
  -- and put in
  have a7:=ziq (e:=0) (g:=105) (cap:=[.ptr (n+2) 0,.ptr (n+6) 0]) (lo:=U.2.2) (id:=a) (E:=movE i.toNat x) (Q:=fun w w'=>w'.own=w.own/\w'.kids=zvy i.toNat x w) (H0:=U.2.1) (H:=U.2.1) (n:=U.2.2) (tb:=t1) (v:=r)
   (by omega) g4 a9 (fun _ w hw a0=>by
    have hk:=X (treeV w) (by rw[<-l.1,z72];exact Z6.2 ⟨w,hw,rfl⟩) (by rw[z37];exact a0);rw[z26,Zk]at hk;have b0:Stand U.2.1 x:=Stand.agree (n:=n) (fun j o=>by rw[b.agree j (by omega)];exact s j o) x (z4w I N) (zd4 v M x N);have b2:Under U.2.2 x:=(z4w I N).le (by omega)
    exact⟨do_mov (by rw[b.agree _ (by omega),a1,a8,hi]) (by omega) (by rw[b.agree _ (by omega),a2]) (by omega) b0 b2 (by omega) (zi0 a9 hw),eff_mov b0 b2⟩) (Zd _) (Agree.refl _ _) g6 g7
  obtain⟨o2,a5,d⟩:=a7;refine⟨o2,?_,⟨by have:=d.le;omega,fun j o=>by rw[d.agree j (by omega),b.agree j (by omega)];exact s j o,fun h=>absurd h0 h,fun _=>?_⟩⟩
  ·subst h0;refine(zqzj [8000000,3000042,3000043,11000044,3000047,3000048,4000049,10000049,4000050,10000050] func45 rfl (by decide+kernel) rfl ?_);subst F;unfold idB at cU
   repeat'(first|refine nxt ?_|((first|refine zqh fun K p=>?_|refine zqe (by decide+kernel) fun K p=>?_|refine z20 (cU) ?_|refine zqs (c1) ?_|refine zqs (c2) ?_);simp(disch:=omega)only[go_sem,Z0,Z4,↓reduceIte,reduceCtorEq,Z2,Z1,hH,L,treeB,z0z,z0a])|(refine zqd _ rfl ?_ ?_<;>intro hc<;>(first|(cases hc;done)|((try omega))))|(refine p _ ?_;clear p K))
   refine zfj (fun W n' h2=>cF W n' (Zx (by(simp(disch:=omega)only[go_sem])<;>omega) h2.1) fun j o=>(h2.2 j (by(simp(disch:=omega)only[go_sem])<;>omega)).trans (by(simp(disch:=omega)only[go_sem]);simp(disch:=omega)only[z40])) rfl ?_;(try(simp(disch:=omega)only[go_sem,Z0,Z4,↓reduceIte,Z2,Z1,Zj,L]));repeat'(first|((refine zqe (by decide+kernel) fun K p=>?_);simp(disch:=omega)only[go_sem,Z0,Z4,↓reduceIte,Z2,Z1,L])|(refine p _ ?_;clear p K))
   refine z4p (ac_out id) rfl rfl rfl ⟨YO _,fun j o=>z03 _ (YL o)⟩ ?_;(try(simp(disch:=omega)only[go_sem,Z0]));repeat' skip
   subst z;subst C;subst J;subst B;subst A;refine z4p a4 rfl rfl rfl ⟨by(simp(disch:=omega)only[go_sem])<;>omega,fun j o=>b.agree j o⟩ ?_;have f6:=(b.agree (n+1) (by omega)).trans a3;rw[g1];(try(simp(disch:=omega)only[go_sem,Z0,idB,z0a]));repeat'(first|((refine zqh fun K p=>?_);simp(disch:=omega)only[go_sem,Z0,↓reduceIte,Z2,Z1,f6,idB,z0a])|(refine p _ ?_;clear p K))
   refine z2i (a5.mono fun r' W n' ⟨e1,e2,e3⟩=>?_);rcases d.shape with ⟨t,hd1⟩|hd1
   all_goals
    rw[hd1]at e1;subst e1;subst e2;subst e3;(try(simp(disch:=omega)only[go_sem,Z0]));repeat'(first|refine nxt ?_|refine zqU ?_|(refine p _ ?_;clear p K))
    rw[hd1];simp(disch:=omega)only[go_sem,Z0]
  ·rw[a8]at d⊢;obtain⟨v',t,p1,p2,p3,p4,p5,p6,p7⟩:=d.good rfl (by rw[l.1];exact w5);obtain⟨k1,k2,k3⟩:=upd_mov (n:=n) (m:=n+8) (m2:=U.2.2) (n2:=U.2.2) (at_:=m) m1 m4 m2 m3 m5 q3 q2 q4 (by rw[b8]) N I (by omega) l b7 g7 (by omega) (Zd _) p5;exact⟨v',t,p1,by omega,p3,p4,p6,p7,k1,k2,k3⟩
 ·refine⟨(.tup [.nptr,.int .i64 e],H2,n+5),?_,⟨by simp,P,fun _=>rfl,fun h=>absurd h h0⟩⟩;refine(zqzj [8000000,3000042,3000043,11000044,3000047,3000048,4000049,10000049,4000050,10000050] func45 rfl (by decide+kernel) rfl ?_);subst F;unfold idB at cU
  repeat'(first|refine nxt ?_|((first|refine zqh fun K p=>?_|refine z20 (cU) ?_|refine zqs (c1) ?_);simp(disch:=omega)only[go_sem,Z0,↓reduceIte,Z2,Z1,L,z0z,z0a])|(refine zqd _ rfl ?_ ?_<;>intro hc<;>(((try simp only[z05]at hc);try omega)))|refine zqU ?_|(refine p _ ?_;clear p K))
  (simp(disch:=omega)only[go_sem,Z0]);rw[B,A]
  rfl
end
end
end
end Go.Proofs.YtppebcifiejplaaGreatDoor
