import Derived.Test.YtppebcifiejplaaGreatDoorWC
import Derived.WalkKit
import Derived.Lib.Walk
import Derived.Lib.SliceRun
import Derived.Lib.AppendZerosOnto
import Derived.Lib.Overlaps
import Derived.Laws.Externs
import Derived.Laws.NewBlocks
import Derived.Shelf.Spec.SlicesInsert
/-
 Lemmas of the claim. No condition but those that each names.
-/
set_option linter.unusedSimpArgs false
set_option linter.unusedVariables false
set_option maxRecDepth 100000
set_option maxHeartbeats 8000000
set_option linter.unusedSectionVars false
open Nat renaming reduceBEq->Z0,reduceLeDiff->Z1,reduceAdd->Z2,reduceEqDiff->Zk,reduceMul->Zo,reduceLT->Zx,add_sub_cancel_left->ZR,add_mul->ZS,le_refl->ZV,le_trans->Ya,zero_add->Yh,min_def->Yl,min->Yq,lt_irrefl->Yt,sub_self->Yw,mul_le_mul_right->Yy,zero_le->Yz,reduceBeqDiff->YD,lt_succ_self->YF,add_zero->YO
open Bool renaming and_self->Z3,and_eq_true->Zb,not_eq_false->Zi,not_eq_true->ZI,not_true->ZU,and_false->Y2,false_and->Y3,true_and->Yd,or_eq_true->YH,eq_iff_iff->YI
open List renaming length_append->Z4,mem_flatMap->Z5,mem_cons_of_mem->Z6,mem_cons->Z7,flatMap_append->Z8,append_assoc->Z9,mem_append->Za,take_of_length_le->Zc,getElem_mem->Zd,take_append_drop->Ze,flatMap_cons->Zf,map_cons->Zg,length_take->Zh,mem_append_right->Zj,mem_map->Zl,mem_append_left->Zm,map_append->Zn,take_append_of_le_length->Zp,set_cons_zero->Zq,length_drop->Zr,set_cons_succ->Zt,length_map->Zu,drop_of_length_le->Zv,nil_append->Zw,nodup_append->Zy,getElem_of_mem->Zz,mem_filter->ZB,cons_append->ZC,getElem?_eq_getElem->ZD,filter_cons->ZE,mem_cons_self->ZF,all_eq_true->ZH,drop_append->ZJ,singleton_append->ZL,size_toArray->ZM,length_cons->ZN,getElem_map->ZO,not_mem_nil->ZP,find?_eq_none->ZQ,drop_zero->ZT,nodup_cons->ZW,map_congr_left->ZY,drop_succ_cons->ZZ,filter_append->Y0,getElem?_append_right->Y1,drop_eq_getElem_cons->Y4,getElem?_append_left->Y5,getElem?_eq_some_iff->Y6,any_eq_false->Y7,getElem_append_left->Y9,mem_of_mem_drop->Yc,getElem_take->Yg,any_eq_true->Yi,map_id->Yk,foldl_cons->Ym,append_nil->Yn,take_left'->Yo,perm_append_comm_assoc->Yp,drop_drop->Yr,getElem_cons_succ->Yv,pairwise_flatMap->Yx,length_pos_iff->YA,filter_eq_self->YB,ext_getElem->YG,nodup_nil->YL,sum_cons->YM,all_map->YN
open Array renaming getElem?_modify->Zs,length_toList->ZA,getElem?_push->ZG,ext_getElem?->YC
open ByteArray renaming empty->ZK
open Int renaming natCast_add->ZX,natCast_one->Yb,natCast_zero->Yj,eq_ofNat_of_zero_le->Yu,toNat_natCast->YE,reduceEq->YP
open Option renaming some.injEq->Y8,map_some->YJ
open Classical renaming not_not->Ye,em->Yf
open Prod renaming mk.injEq->Ys,fst->YK
open Go.Proofs.YtppebcifiejplaaGreatDoor.Abs.Le renaming refl->XY
namespace Go.Proofs.YtppebcifiejplaaGreatDoor
section
section
open Abs Facts Tr
namespace Tr
theorem z6a(id:Idv):∀t:T,z27 id t=[] ↔ id∉idsT t:=by
 refine z4a fun t f=>?_;rw[z1c,Z7,Z5]
 by_cases c:t.id=id
 ·rw[z4m c];simp[c]
 ·rw[zbw,if_neg c];constructor
  ·intro h a;rcases a with a|⟨k,b,a⟩
   ·exact c a.symm
   ·have d:z27 id k ≠ []:=fun e=>(f k b).1 e a;split at h
    ·cases h
    ·rename_i g;have:=ZQ.1 g (z27 id k) (Zl.2 ⟨k,b,rfl⟩);simp at this;exact d this
  ·intro a;have:(t.kids.map (z27 id)).find? (fun w => !w.isEmpty)=none:=by
    rw[ZQ];intro w i;obtain⟨k,b,rfl⟩:=Zl.1 i;have:=(f k b).2 fun h=>a (.inr ⟨k,b,h⟩);rw[this];simp
   rw[this]
theorem z4s{id:Idv}{t:T}:z27 id t ≠ [] ↔ id∈idsT t:=by
 rw[ne_eq,z6a,Ye]
theorem z8w{id:Idv}{t:T}(f:¬t.id=id)(h:z27 id t ≠ []):∃i,∃b:i<t.kids.length,(∀j,(a:j<i)->(h:j<t.kids.length)->z27 id t.kids[j]=[])/\z27 id t.kids[i] ≠ []/\z27 id t=t::z27 id t.kids[i]:=by
 have d:∃i,∃b:i<t.kids.length,z27 id t.kids[i] ≠ []:=by
  rcases Yf (∃i,∃b:i<t.kids.length,z27 id t.kids[i] ≠ [])with h1|h1
  ·exact h1
  ·exfalso;refine h (zj9 f (ZV _) fun j _ a=>?_);rcases Yf (z27 id t.kids[j]=[])with h2|h2
   ·exact h2
   ·exact(h1 ⟨j,a,h2⟩).elim
 let p:Nat->Prop:=fun i=>∃b:i<t.kids.length,z27 id t.kids[i] ≠ []
 obtain⟨i,b,c⟩:∃i,p i/\∀j,j<i->¬p j:=by
  obtain⟨i,b⟩:=d
  induction i using Nat.strongRecOn with
  |ind i l =>
   rcases Yf (∃j,j<i/\p j)with ⟨j,a,e⟩|h2
   ·exact l j a e
   ·exact⟨i,b,fun j a e=>h2 ⟨j,a,e⟩⟩
 obtain⟨g,k⟩:=b;have h1:∀j,(a:j<i)->(h:j<t.kids.length)->z27 id t.kids[j]=[]:=fun j a h=>by
  rcases Yf (z27 id t.kids[j]=[])with h2|h2
  ·exact h2
  ·exact(c j a ⟨h,h2⟩).elim
 exact⟨i,g,h1,k,z5j f g h1 k⟩
theorem zof(id:Idv):∀t:T,∀h:z27 id t ≠ [],((z27 id t)[(z27 id t).length-1]'(by have:=YA.2 h;omega)).id=id:=by
 refine z4a fun t g h=>?_
 by_cases b:t.id=id
 ·simp only[z4m b,ZN,List.length_nil,List.getElem_cons_zero];exact b
 ·obtain⟨i,d,_,a,f⟩:=z8w b h;have c:=g _ (Zd d) a;have j:=YA.2 a;simp only[f,ZN];have e:(z27 id t.kids[i]).length+1-1=(z27 id t.kids[i]).length-1+1:=by omega
  simp only[e,Yv];exact c
theorem z77{t:T}(h:(idsT t).Nodup):(∀k∈t.kids,t.id∉idsT k)/\(∀k∈t.kids,(idsT k).Nodup)/\∀i j,(hi:i<t.kids.length)->(c:j<t.kids.length)->i≠j->∀x∈idsT t.kids[i],x∉idsT t.kids[j]:=by
 rw[z1c,ZW]at h;obtain⟨l,f⟩:=h;refine⟨fun k d m=>l (Z5.2 ⟨k,d,m⟩),fun k d=>?_,fun i j hi c b x g a=>?_⟩
 ·exact(Yx.1 f).1 k d
 ·have e:=(Yx.1 f).2;rw[List.pairwise_iff_getElem]at e;rcases Nat.lt_or_gt_of_ne b with h3|h3
  ·exact e i j hi c h3 x g x a rfl
  ·exact e j i c hi h3 x a x g rfl
end Tr
end
section
open Abs Facts Tr
namespace Tr
def T.setKids(t:T)(l:List T):T:=.mk t.id t.kind t.label t.head t.words l
theorem z9a(t:T):t.setKids t.kids=t:=T.eta t
inductive Ctx where
 |hole
 |node (t:T) (l:List T) (c:Ctx) (r:List T)
def z2s:Ctx->T->T
 | .hole,x=>x
 | .node t l c r,x=>t.setKids (l++z2s c x::r)
def z89:Ctx->List Idv
 | .hole=>[]
 | .node t l c _=>t.id::(l.flatMap idsT++z89 c)
def z4b:Ctx->List Idv
 | .hole=>[]
 | .node _ _ c r=>z4b c++r.flatMap idsT
def zyc:Ctx->Nat
 | .hole=>0
 | .node _ _ c _=>zyc c+1
def depC:Ctx->Nat
 | .hole=>0
 | .node _ l c r=>max (ze5 ((l++r).map depT)) (1+depC c)
def zm3:Ctx->List Idv
 | .hole=>[]
 | .node t _ c _=>zm3 c++[t.id]
theorem zq9:∀C,(zm3 C).length=zyc C
 | .hole=>rfl
 | .node t l c r=>by simp[zm3,zyc,zq9 c]
theorem z2x(x:T):∀C,idsT (z2s C x)=z89 C++(idsT x++z4b C)
 | .hole=>by simp[z2s,z89,z4b]
 | .node t l c r=>by
  rw[z2s,z1c];show t.id::(l++z2s c x::r).flatMap idsT=_;rw[Z8,Zf,z2x x c,z89,z4b];simp only[ZC,Z9]
theorem z7c(C:Ctx)(x:T):cntT (z2s C x)=(z89 C).length+cntT x+(z4b C).length:=by
 rw[<-z3q,z2x,Z4,Z4,z3q];omega
theorem zql(l:List Nat):∀a:Nat,l.foldl (fun d x=>max d (1+x)) a=max a (ze5 l):=by
 unfold ze5
 induction l with
 |nil=>intro a;simp
 |cons y l b =>
  intro a;rw[Ym,Ym,b,b (max 0 (1+y))];omega
theorem zaf(l r:List Nat):ze5 (l++r)=max (ze5 l) (ze5 r):=by
 conv=>lhs;unfold ze5
 rw[List.foldl_append,zql r];rfl
theorem zf0(a:Nat)(l:List Nat):ze5 (a::l)=max (1+a) (ze5 l):=by
 conv=>lhs;unfold ze5
 rw[Ym,zql l];omega
theorem zag(x:T):∀C,depT (z2s C x)=max (depC C) (zyc C+depT x)
 | .hole=>by simp[z2s,depC,zyc]
 | .node t l c r=>by
  rw[z2s,z5w];show ze5 ((l++z2s c x::r).map depT)=_;rw[Zn,Zg,zaf,zf0,zag x c,depC,zyc,Zn,zaf];omega
def keyC:Ctx->Int×ByteArray->Int×ByteArray
 | .hole,k=>k
 | .node t _ _ _,_=>z5r t
theorem key_plug(C:Ctx)(x:T):z5r (z2s C x)=keyC C (z5r x):=by cases C<;>rfl
def ctxR:Ctx->Int×ByteArray->Prop
 | .hole,_=>True
 | .node t l c r,k=>(z3l (t.setKids (l++t::r))=true/\(∀y∈l++r,z1h t.kind y.kind=true/\z3m y=true)/\z1h t.kind (keyC c k).1=true/\((l++r).map z5r).Nodup/\keyC c k∉(l++r).map z5r)/\ctxR c k
theorem zyd(t:T){l m:List T}(h:l.length=m.length):z3l (t.setKids l)=z3l (t.setKids m):=by
 unfold z3l;show (_&&(decide (l.length<=64)&&_))=(_&&(decide (m.length<=64)&&_))
 rw[h];rfl
theorem nodup_mid{α:Type}(l r:List α)(a:α):(l++a::r).Nodup ↔ (l++r).Nodup/\a∉l++r:=by
 rw[List.perm_middle.nodup_iff,ZW];exact And.comm
theorem zf1(t p:T)(l r:List T):z3m (t.setKids (l++p::r))=true ↔
  (z3l (t.setKids (l++t::r))=true/\(∀y∈l++r,z1h t.kind y.kind=true/\z3m y=true)/\z1h t.kind p.kind=true/\((l++r).map z5r).Nodup/\z5r p∉(l++r).map z5r)/\z3m p=true:=by
 have j:((l++p::r).map z5r).Nodup ↔ ((l++r).map z5r).Nodup/\z5r p∉(l++r).map z5r:=by
  rw[Zn,Zg,nodup_mid,Zn]
 rw[z42];show (z3l (t.setKids (l++p::r))&&(((l++p::r).all fun k=>z1h t.kind k.kind)&&((l++p::r).all z3m&&decide (((l++p::r).map z5r).Nodup))))=true ↔ _;rw[zyd t (l:=l++p::r) (m:=l++t::r) (by simp)];simp only[Zb,decide_eq_true_eq,ZH,j];constructor
 ·rintro⟨d,b,c,e,f⟩;refine⟨⟨d,fun y a=>?_,b p (by simp),e,f⟩,c p (by simp)⟩;have:y∈l++p::r:=by
   rcases Za.1 a with h|h
   ·exact Zm _ h
   ·exact Zj _ (Z6 _ h)
  exact⟨b y this,c y this⟩
 ·rintro⟨⟨d,b,c,e,f⟩,i⟩;have g:∀y∈l++p::r,y=p \/ y∈l++r:=fun y a=>by
   rcases Za.1 a with h|h
   ·exact .inr (Zm _ h)
   ·rcases Z7.1 h with h|h
    ·exact .inl h
    ·exact .inr (Zj _ h)
  refine⟨d,fun y a=>?_,fun y a=>?_,e,f⟩
  ·rcases g y a with rfl|h
   ·exact c
   ·exact(b y h).1
  ·rcases g y a with rfl|h
   ·exact i
   ·exact(b y h).2
theorem z4v(x:T):∀C,z3m (z2s C x)=true ↔ ctxR C (z5r x)/\z3m x=true
 | .hole=>by simp[z2s,ctxR]
 | .node t l c r=>by
  rw[z2s,zf1,z4v x c,ctxR,<-key_plug];exact(and_assoc).symm
theorem ze1{id:Idv}{l r:List T}{p:T}:id∈(l++p::r).flatMap idsT ↔ id∈l.flatMap idsT \/ id∈idsT p \/ id∈r.flatMap idsT:=by
 rw[Z8,Zf,Za,Za]
theorem zqw(l r:List T)(p:T):∃h:l.length<(l++p::r).length,(l++p::r)[l.length]=p:=⟨by simp,by simp⟩
theorem zd1{id:Idv}{l:List T}(h:id∉l.flatMap idsT)(p:T)(r:List T):∀j,(a:j<l.length)->(b:j<(l++p::r).length)->z27 id (l++p::r)[j]=[]:=fun j a b=>by
 rw[Y9 a,z6a];exact fun c=>h (Z5.2 ⟨_,Zd a,c⟩)
section
variable {id:Idv}{t p:T}{l r:List T}
theorem way_mid(b:¬t.id=id)(d:id∉l.flatMap idsT)(e:id∈idsT p):z27 id (t.setKids (l++p::r))=t.setKids (l++p::r)::z27 id p:=by
 obtain⟨c,a⟩:=zqw l r p
 have:=z5j (id:=id) (t:=t.setKids (l++p::r)) (i:=l.length) b c (zd1 d p r) (by
  show z27 id (l++p::r)[l.length] ≠ []
  rw[a];exact z4s.2 e)
 refine this.trans ?_;show _::z27 id (l++p::r)[l.length]=_;rw[a]
theorem znn(b:¬t.id=id)(c:id∉l.flatMap idsT)(a:id∈idsT p):z07 id (t.setKids (l++p::r))=z07 id p :=
 z5k (way_mid b c a) (z4s.2 a)
theorem ztv(b:¬t.id=id)(d:id∉l.flatMap idsT)(e:id∈idsT p):z3i id (t.setKids (l++p::r))=z3i id p++[t.id]:=by
 obtain⟨c,a⟩:=zqw l r p
 have:=zvt (id:=id) (t:=t.setKids (l++p::r)) (i:=l.length) b c (zd1 d p r) (by
  show z27 id (l++p::r)[l.length] ≠ []
  rw[a];exact z4s.2 e)
 refine this.trans ?_;show z3i id (l++p::r)[l.length]++_=_;rw[a];rfl
theorem zw9(a:¬t.id=id)(d:id∉l.flatMap idsT)(e:p.id=id):z3c id (t.setKids (l++p::r))=(t.id,(l.length:Int),true):=by
 obtain⟨b,c⟩:=zqw l r p
 exact zpi (id:=id) (t:=t.setKids (l++p::r)) (i:=l.length) a b (zd1 d p r) (by
  show (l++p::r)[l.length].id=id
  rw[c];exact e)
theorem par_mid(b:¬t.id=id)(d:id∉l.flatMap idsT)(f:¬p.id=id)(e:id∈idsT p):z3c id (t.setKids (l++p::r))=z3c id p:=by
 obtain⟨c,a⟩:=zqw l r p
 have:=parR_in (id:=id) (t:=t.setKids (l++p::r)) (i:=l.length) b c (zd1 d p r) (by
  show ¬(l++p::r)[l.length].id=id
  rw[a];exact f) (by
  show z27 id (l++p::r)[l.length] ≠ []
  rw[a];exact z4s.2 e)
 refine this.trans ?_;show z3c id (l++p::r)[l.length]=_;rw[a]
end
theorem z1b(x:T):x.id∈idsT x:=by rw[z1c];exact ZF
theorem z5l{id:Idv}{t:T}{l r:List T}{c:Ctx}(h:id∉z89 (.node t l c r)):¬t.id=id/\id∉l.flatMap idsT/\id∉z89 c:=by
 rw[z89,Z7,Za]at h;exact⟨fun e=>h (.inl e.symm),fun e=>h (.inr (.inl e)),fun e=>h (.inr (.inr e))⟩
theorem zjk{id:Idv}{t:T}{l r:List T}{c:Ctx}(h:id∉z4b (.node t l c r)):id∉z4b c/\id∉r.flatMap idsT:=by
 rw[z4b,Za]at h;exact⟨fun e=>h (.inl e),fun e=>h (.inr e)⟩
theorem z80{id:Idv}(C:Ctx){x:T}(h:id∈idsT x):id∈idsT (z2s C x):=by
 rw[z2x];exact Zj _ (Zm _ h)
theorem z7h{id:Idv}{x:T}(a:id∈idsT x):∀C,id∉z89 C->z07 id (z2s C x)=z07 id x
 | .hole,_=>rfl
 | .node t l c r,h=>by
  obtain⟨b,d,e⟩:=z5l h;rw[z2s,znn b d (z80 c a),z7h a c e]
theorem zi8{id:Idv}{x:T}(a:id∈idsT x):∀C,id∉z89 C->z3i id (z2s C x)=z3i id x++zm3 C
 | .hole,_=>by simp[z2s,zm3]
 | .node t l c r,h=>by
  obtain⟨b,d,e⟩:=z5l h;rw[z2s,ztv b d (z80 c a),zi8 a c e,zm3,Z9]
theorem zno{id:Idv}{x:T}(d:id∈idsT x)(b:¬x.id=id):∀C,id∉z89 C->z3c id (z2s C x)=z3c id x
 | .hole,_=>rfl
 | .node t l c r,h=>by
  obtain⟨e,f,a⟩:=z5l h;have g:¬(z2s c x).id=id:=by
   cases c with
   |hole=>exact b
   |node m j i k=>exact(z5l a).1
  rw[z2s,par_mid e f g (z80 c d),zno d b c a]
theorem focus(id:Idv):∀u:T,id∈idsT u->∃C,u=z2s C (z07 id u).1/\(z07 id u).1.id=id/\id∉z89 C/\(z07 id u).2=true:=by
 refine z4a fun u w v=>?_
 by_cases b:u.id=id
 ·rw[z30 b];exact⟨.hole,rfl,b,by simp[z89],rfl⟩
 ·obtain⟨i,d,n,c,o⟩:=z8w b (z4s.2 v);rw[z5k o c];obtain⟨C,e,f,g,m⟩:=w _ (Zd d) (z4s.1 c);refine⟨.node u (u.kids.take i) C (u.kids.drop (i+1)),?_,f,?_,m⟩
  ·rw[z2s,<-e,<-Y4 d,Ze,z9a]
  ·rw[z89,Z7,Za];rintro(h|h|h)
   ·exact b h.symm
   ·obtain⟨k,s,a⟩:=Z5.1 h;obtain⟨j,q,rfl⟩:=Zz s;rw[Yg]at a;rw[Zh]at q;have:=n j (by omega) (by omega);rw[z6a]at this;exact this a
   ·exact g h
theorem zr0{id:Idv}{u:T}(h:id∉idsT u):z07 id u=(T.zero,false):=zeq ((z6a id u).2 h)
theorem z1y{id:Idv}{u:T}:(z07 id u).2=decide (id∈idsT u):=by
 by_cases h:id∈idsT u
 ·obtain⟨_,_,_,_,a⟩:=focus id u h
  rw[a,decide_eq_true h]
 ·rw[zr0 h,decide_eq_false h]
theorem zjl{id:Idv}{u:T}(y:¬u.id=id)(B:id∈idsT u):∃(C:Ctx) (q:T) (l:List T) (x:T) (r:List T),u=z2s C (q.setKids (l++x::r))/\x.id=id/\¬q.id=id/\id∉z89 C/\id∉l.flatMap idsT/\z07 id u=(x,true)/\z3c id u=(q.id,(l.length:Int),true):=by
 obtain⟨C,k,f,z,A⟩:=focus id u B
 -- the a frame of C
 have a:∀C:Ctx,∀x:T,¬(z2s C x).id=id->x.id=id->id∉z89 C->∃(b:Ctx) (q:T) (l r:List T),z2s C x=z2s b (q.setKids (l++x::r))/\¬q.id=id/\id∉z89 b/\id∉l.flatMap idsT:=by
  intro C x
  induction C with
  |hole=>intro h g _;exact(h g).elim
  |node t l c r F =>
   intro h g E;obtain⟨o,s,v⟩:=z5l E
   by_cases m:(z2s c x).id=id
   ·cases c with
    |hole=>exact⟨.hole,t,l,r,rfl,o,by simp[z89],s⟩
    |node H n G w=>exact((z5l v).1 m).elim
   ·obtain⟨b,q,n,w,e,d,i,j⟩:=F m g v;refine⟨.node t l b r,q,n,w,?_,d,?_,j⟩
    ·rw[z2s,e,z2s]
    ·rw[z89,Z7,Za];rintro(h|h|h)
     ·exact o h.symm
     ·exact s h
     ·exact i h
 generalize g:(z07 id u).1=x at k f;obtain⟨b,q,l,r,e,d,i,j⟩:=a C x (by rw[<-k];exact y) f z;refine⟨b,q,l,x,r,k.trans e,f,d,i,j,?_,?_⟩
 ·rw[<-g,<-A]
 ·rw[k,e,zno (x:=q.setKids (l++x::r)) (by rw[z1c,Z7];exact .inr (ze1.2 (.inr (.inl (f ▸ z1b x))))) d b i,zw9 d j f]
end Tr
end
section
open Abs Facts Tr
namespace Tr
def z10(id:Idv)(f:T->T)(t:T):T:=zgc (fun t l=>if t.id=id then f t else t.setKids l) t
theorem z6h(id:Idv)(f:T->T)(t:T):z10 id f t=if t.id=id then f t else t.setKids (t.kids.map (z10 id f)):=by
 unfold z10;rw[z3r]
def atR(id:Idv)(f:T->T)(t:T):T×Bool:=zgc (fun t l=>if t.id=id then (f t,true) else
 match l[z1r (fun q:T×Bool=>q.2) l]? with
 |some q=>(t.setKids (t.kids.set (z1r (fun q:T×Bool=>q.2) l) q.1),true)
 |none=>(t,false)) t
theorem atR_eq(id:Idv)(f:T->T)(t:T):atR id f t=if t.id=id then (f t,true) else
  match (t.kids.map (atR id f))[z1r (fun q:T×Bool=>q.2) (t.kids.map (atR id f))]? with
  |some q=>(t.setKids (t.kids.set (z1r (fun q:T×Bool=>q.2) (t.kids.map (atR id f))) q.1),true)
  |none=>(t,false):=by
 unfold atR;rw[z3r]
theorem zvu{id:Idv}{f:T->T}{t:T}(h:t.id=id):atR id f t=(f t,true):=by rw[atR_eq,if_pos h]
theorem atR_kid{id:Idv}{f:T->T}{t:T}{i:Nat}(b:¬t.id=id)(hi:i<t.kids.length)(c:∀j,(a:j<i)->(h:j<t.kids.length)->(atR id f t.kids[j]).2=false)(d:(atR id f t.kids[i]).2=true) :
  atR id f t=(t.setKids (t.kids.set i (atR id f t.kids[i]).1),true):=by
 have e:z1r (fun q:T×Bool=>q.2) (t.kids.map (atR id f))=i:=z2j (by rw[Zu];omega) (fun j a=>by rw[ZO];exact c j a (by omega)) (fun h=>by rw[ZO];exact d);rw[atR_eq,if_neg b,e,ZD (by rw[Zu];exact hi),ZO]
theorem zvv{id:Idv}{f:T->T}{t:T}(a:¬t.id=id)(b:∀j,(h:j<t.kids.length)->(atR id f t.kids[j]).2=false):atR id f t=(t,false):=by
 have c:z1r (fun q:T×Bool=>q.2) (t.kids.map (atR id f))=t.kids.length:=z2j (by rw[Zu];omega) (fun j d=>by rw[ZO];exact b j d) (fun h=>by rw[Zu]at h;omega);rw[atR_eq,if_neg a,c,List.getElem?_eq_none (by rw[Zu];omega)]
theorem at_no{id:Idv}(f:T->T):∀t:T,id∉idsT t->atR id f t=(t,false):=by
 refine z4a fun t c h=>?_;rw[z1c,Z7]at h;refine zvv (fun e=>h (.inl e.symm)) fun j a=>?_;rw[c _ (Zd a) fun b=>h (.inr (Z5.2 ⟨_,Zd a,b⟩))]
theorem ztg{id:Idv}(f:T->T){q:T}(e:q.id=id):∀C,id∉z89 C->atR id f (z2s C q)=(z2s C (f q),true)
 | .hole,_=>zvu e
 | .node t l c r,h=>by
  obtain⟨m,n,o⟩:=z5l h;obtain⟨k,u⟩:=zqw l r (z2s c q);have g:=ztg f e c o;have d:(t.setKids (l++z2s c q::r)).kids[l.length]'k=z2s c q:=u
  rw[z2s,atR_kid (t:=t.setKids (l++z2s c q::r)) (i:=l.length) m k (fun j b a=>by
   have p:j<(l++z2s c q::r).length:=a;show (atR id f ((l++z2s c q::r)[j]'p)).2=false
   rw[Y9 b,at_no f _ fun s=>n (Z5.2 ⟨_,Zd b,s⟩)]) (by rw[d,g]),d,g,z2s]
  show (t.setKids ((l++z2s c q::r).set l.length (z2s c (f q))),true)=_;rw[List.set_append_right _ _ (ZV _),Yw,Zq]
theorem edit_no{id:Idv}(f:T->T):∀t:T,id∉idsT t->z10 id f t=t:=by
 refine z4a fun t c h=>?_;rw[z1c,Z7]at h;rw[z6h,if_neg fun e=>h (.inl e.symm)];have:t.kids.map (z10 id f)=t.kids:=by
  conv=>rhs;rw[<-Yk t.kids]
  exact ZY fun k a=>c k a fun b=>h (.inr (Z5.2 ⟨_,a,b⟩))
 rw[this,z9a]
theorem zvw{id:Idv}(f:T->T){l:List T}(h:id∉l.flatMap idsT):l.map (z10 id f)=l:=by
 conv=>rhs;rw[<-Yk l]
 exact ZY fun k a=>edit_no f k fun b=>h (Z5.2 ⟨_,a,b⟩)
theorem z4n{id:Idv}(f:T->T){q:T}(a:q.id=id):∀C,id∉z89 C->id∉z4b C->z10 id f (z2s C q)=z2s C (f q)
 | .hole,_,_=>by rw[z2s,z2s,z6h,if_pos a]
 | .node t l c r,h,b=>by
  obtain⟨d,e,g⟩:=z5l h;obtain⟨i,j⟩:=zjk b;rw[z2s,z6h,if_neg (show ¬(t.setKids _).id=id from d),z2s];show t.setKids ((l++z2s c q::r).map (z10 id f))=_;rw[Zn,Zg,z4n f a c g i,zvw f e,zvw f j]
def z8i(id:Idv)(k:T):Bool:=decide (k.id≠id)
theorem zbo{id:Idv}{k:T}(h:¬k.id=id):z8i id k=true:=decide_eq_true h
theorem keepK_f{id:Idv}{k:T}(h:k.id=id):z8i id k=false:=decide_eq_false fun g=>g h
def z0q(id:Idv)(t:T):T:=zgc (fun t l=>t.setKids (((t.kids.zip l).filter fun p=>z8i id p.1).map (·.2))) t
theorem zg7(p:T->Bool)(g:T->T):∀l:List T,((l.zip (l.map g)).filter fun q=>p q.1).map (·.2)=(l.filter p).map g
 |[]=>rfl
 |x::l=>by
  rw[Zg,List.zip_cons_cons,ZE,ZE];show (if p x=true then _ else _:List (T×T)).map (·.2)=_;split
  ·rw[Zg,Zg,zg7 p g l]
  ·rw[zg7 p g l]
theorem z4z(id:Idv)(t:T):z0q id t=t.setKids ((t.kids.filter (z8i id)).map (z0q id)):=by
 conv=>lhs;unfold z0q;rw[z3r]
 show t.setKids (((t.kids.zip (t.kids.map (z0q id))).filter fun p=>z8i id p.1).map (·.2))=_;rw[zg7 (z8i id) (z0q id)]
theorem wipe_no{id:Idv}:∀t:T,(∀k∈t.kids,id∉idsT k)->z0q id t=t:=by
 refine z4a fun t g h=>?_;rw[z4z];have c:t.kids.filter (z8i id)=t.kids:=YB.2 fun k a=>zbo fun e=>h k a (e ▸ z1b k);have d:t.kids.map (z0q id)=t.kids:=by
  conv=>rhs;rw[<-Yk t.kids]
  exact ZY fun k a=>g k a fun i b f=>h k a (by rw[z1c];exact Z6 _ (Z5.2 ⟨_,b,f⟩))
 rw[c,d,z9a]
theorem zi3{id:Idv}{l:List T}(h:id∉l.flatMap idsT):(l.filter (z8i id)).map (z0q id)=l:=by
 have c:l.filter (z8i id)=l:=YB.2 fun k a=>zbo fun e=>h (Z5.2 ⟨_,a,e ▸ z1b k⟩);rw[c]
 conv=>rhs;rw[<-Yk l]
 refine ZY fun k a=>wipe_no k fun f b d=>h (Z5.2 ⟨k,a,?_⟩);rw[z1c];exact Z6 _ (Z5.2 ⟨_,b,d⟩)
theorem zpl{id:Idv}{q x:T}{l r:List T}(c:x.id=id)(a:id∉l.flatMap idsT)(b:id∉r.flatMap idsT):z0q id (q.setKids (l++x::r))=q.setKids (l++r):=by
 rw[z4z];show q.setKids (((l++x::r).filter (z8i id)).map (z0q id))=_;rw[Y0,ZE,if_neg (by rw[keepK_f c];simp),Zn,zi3 a,zi3 b]
theorem zbp{id:Idv}{q x:T}{l r:List T}(f:¬q.id=id)(i:x.id=id)(e:id∉l.flatMap idsT)(g:id∉r.flatMap idsT):∀C,id∉z89 C->id∉z4b C->z0q id (z2s C (q.setKids (l++x::r)))=z2s C (q.setKids (l++r))
 | .hole,_,_=>zpl i e g
 | .node t a c b,h,j=>by
  obtain⟨s,k,d⟩:=z5l h;obtain⟨m,n⟩:=zjk j;have o:¬(z2s c (q.setKids (l++x::r))).id=id:=by
   cases c with
   |hole=>exact f
   |node w u p v=>exact(z5l d).1
  rw[z2s,z4z];show t.setKids (((a++z2s c (q.setKids (l++x::r))::b).filter (z8i id)).map (z0q id))=_;rw[Y0,ZE,if_pos (zbo o),Zn,Zg,zi3 k,zi3 n,zbp f i e g c d m,z2s]
def z4u(i:Nat)(x:T)(p:T):T:=p.setKids (p.kids.take i++x::p.kids.drop i)
def zop(i:Nat)(p:T):T:=p.setKids (p.kids.eraseIdx i)
theorem zvx(q x:T)(l r:List T):z4u l.length x (q.setKids (l++r))=q.setKids (l++x::r):=by
 unfold z4u;show q.setKids ((l++r).take l.length++x::(l++r).drop l.length)=_;rw[List.take_left,List.drop_left]
theorem delK_mid(q x:T)(l r:List T):zop l.length (q.setKids (l++x::r))=q.setKids (l++r):=by
 unfold zop;show q.setKids ((l++x::r).eraseIdx l.length)=_;rw[List.eraseIdx_append_of_length_le (ZV _),Yw,List.eraseIdx_cons_zero]
theorem z2c{C:Ctx}{x:T}(h:(idsT (z2s C x)).Nodup){id:Idv}(a:id∈idsT x):id∉z89 C/\id∉z4b C:=by
 rw[z2x,Zy]at h;obtain⟨_,c,d⟩:=h;rw[Zy]at c;exact⟨fun b=>d id b id (Zm _ a) rfl,fun b=>c.2.2 id a id b rfl⟩
theorem z88{C:Ctx}{x:T}(h:(idsT (z2s C x)).Nodup):(idsT x).Nodup:=by
 rw[z2x,Zy]at h;exact(Zy.1 h.2.1).1
theorem z29(t:T)(l:List T):idsT (t.setKids l)=t.id::l.flatMap idsT:=z1c _
theorem zbq{q x:T}{l r:List T}(h:(idsT (q.setKids (l++x::r))).Nodup):(∀i∈idsT x,i≠q.id/\i∉l.flatMap idsT/\i∉r.flatMap idsT)/\(idsT x).Nodup/\(idsT (q.setKids (l++r))).Nodup:=by
 rw[z29,Z8,Zf]at h;rw[z29,Z8];rw[ZW,Zy,Zy]at h;obtain⟨f,j,⟨k,m,n⟩,g⟩:=h;refine⟨fun i d=>⟨fun e=>f ?_,fun c=>g i c i (Zm _ d) rfl,fun c=>n i d i c rfl⟩,k,?_⟩
 ·rw[<-e];exact Zj _ (Zm _ d)
 ·rw[ZW,Zy];refine⟨fun c=>f ?_,j,m,fun a o b p=>g a o b (Zj _ p)⟩;rcases Za.1 c with h|h
  ·exact Zm _ h
  ·exact Zj _ (Zj _ h)
theorem zg8{id:Idv}(f:T->T){u:T}(e:(idsT u).Nodup)(d:id∈idsT u):atR id f u=(z10 id f u,true):=by
 obtain⟨C,b,a,c,_⟩:=focus id u d
 generalize (z07 id u).1=x at b a;subst b;rw[ztg f a C c,z4n f a C c (z2c e (a ▸ z1b x)).2]
theorem at_wipe{id:Idv}{u:T}(f:(idsT u).Nodup)(j:¬u.id=id)(m:id∈idsT u):∃i:Nat,(z3c id u).2.1=i/\(z3c id u).2.2=true/\atR (z3c id u).1 (zop i) u=(z0q id u,true)/\(∃q,z07 (z3c id u).1 u=(q,true)/\i<q.kids.length/\q∈z0c u):=by
 obtain⟨C,q,l,x,r,e,g,w,A,B,v,n⟩:=zjl j m;rw[n];refine⟨l.length,rfl,rfl,?_⟩;subst e;obtain⟨h,z⟩:=z2c f (id:=q.id) (by rw[z29];exact ZF);have d:id∈idsT (q.setKids (l++x::r)):=by rw[z29];exact Z6 _ (ze1.2 (.inr (.inl (g ▸ z1b x))))
 obtain⟨o,p⟩:=z2c f d;have s:=(zbq (z88 f)).1 id (g ▸ z1b x);refine⟨?_,q.setKids (l++x::r),?_,by show _<(l++x::r).length;simp,?_⟩
 ·show atR q.id (zop l.length) _=_;rw[ztg (id:=q.id) (zop l.length) (q:=q.setKids (l++x::r)) rfl C h,delK_mid,zbp w g B s.2.2 C o p]
 ·rw[z7h (by rw[z29];exact ZF) C h];exact z30 rfl
 ·clear v n f m j A h z d o p s
  induction C with
  |hole=>exact z1t _
  |node t a c b y=>exact z31 (t:=z2s (.node t a c b) _) (k:=z2s c _) (by show _∈a++_::b;simp) y
end Tr
end
open _root_.Go.Proofs.Tryz
section
open Abs Facts Tr
attribute [local irreducible] awp
theorem zr4(u:T)(d:smB u=true)(c:depT u<=1000000000)(id:Idv):PC prog 140 [z0o u,z0z id] (.bool (z07 id u).2):=by
 have b:=z8q u d c id;refine z14 1 (by simp only[pureD.pureL,z02];rfl) rfl (zqzj [] func140 rfl (by decide+kernel) rfl ?_)
 repeat'(first|((first|refine zqh fun K a=>?_|refine zqs (b) ?_);simp(disch:=omega)only[go_sem,Z0,↓reduceIte,Z2,Z1])|refine nxt ?_|refine zqU ?_|(refine a _ ?_;clear a K))
 first|exact z01 rfl|exact z1o rfl
theorem zwe(u:T)(d:smB u=true)(c:depT u<=1000000000)(id:Idv):PC prog 142 [z0o u,z0z id] (.int .i64 (z3i id u).length):=by
 have b:=zh3 u d c id;refine z14 1 (by simp only[pureD.pureL,z02];rfl) rfl (zqzj [] func142 rfl (by decide+kernel) rfl ?_)
 repeat'(first|((first|refine zqh fun K a=>?_|refine zqs (b) ?_);simp(disch:=omega)only[go_sem,Z0,↓reduceIte,Z2,Z1])|refine nxt ?_|refine zqu (by(simp(disch:=omega)only[go_sem,Z0]);rfl) rfl ?_|(refine a _ ?_;clear a K))
 first|exact z01 rfl|exact z1o rfl
namespace Tr
def z2u(l:List T)(kind:Int)(a:ByteArray):Bool:=l.any fun k=>decide (k.kind=kind)&&decide (k.label=a)
def standsT(u:T):Bool:=z6y u && !((if u.kind=0 then (idsT u).drop 1 else idsT u).any fun x=>decide (x=Idv.zero))
end Tr
theorem pc_taken1(k:T)(kind:Int)(b:ByteArray):PC prog 244 [z0o k,.rptr (.int .i64 kind),.rptr (.str b)] (.bool (decide (k.kind=kind)&&decide (k.label=b))):=by
 refine z14 1 (by simp only[pureD.pureL,z02,pureD,Z3]) rfl (zqzj [] func244 rfl (by decide+kernel) rfl ?_)
 repeat'(first|((refine zqh fun K e=>?_);simp(disch:=omega)only[go_sem,Z0,↓reduceIte,reduceCtorEq,Z2])|refine nxt ?_|refine zqU ?_|(refine e _ ?_;clear e K)|(refine zqf (fun d=>?_) (fun d=>?_)<;>(have a:=d;try simp only[z05]at a)<;>((first|have c:=eq_false a|have c:=eq_true a);simp(disch:=omega)only[go_sem,Z0,↓reduceIte,reduceCtorEq,Z2,c];clear d c;try omega)))
 all_goals exact z01 (by simp[a])
theorem znr(l:List T)(d:l.length<=1000000)(kind:Int)(a:ByteArray):PC prog 151 [z0l l,.int .i64 kind,.str a] (.bool (z2u l kind a)):=by
 have c:=zhw false l (by unfold maxLen;omega) (g:=244) (cap:=[.rptr (.int .i64 kind),.rptr (.str a)]) (fun k=>decide (k.kind=kind)&&decide (k.label=a)) rfl (fun k _=>pc_taken1 k kind a);refine z14 1 (by simp only[pureD.pureL,z1g,pureD,Z3]) rfl (zqzj [] func151 rfl (by decide+kernel) rfl ?_)
 repeat'(first|((refine zqh fun K b=>?_);simp(disch:=omega)only[go_sem,Z0,Z2])|(refine b _ ?_;clear b K))
 refine z20 (PC.borrow c rfl 4 (z00 (z0e 3 (z1g _)) (z00 (zi4 3 rfl (z00 (z2n (e:=3) 2 ?_ z7p (z0e 1 rfl)) (z00 (z2n (e:=9) 2 ?_ z7q (z0e 1 rfl)) z0i))) z0i))) ?_
 ·(simp(disch:=omega)only[go_sem,Z0])
 ·(simp(disch:=omega)only[go_sem,Z0])
 (try(simp(disch:=omega)only[go_sem,Z0]));repeat'(first|refine nxt ?_|refine zqU ?_|(refine b _ ?_;clear b K))
 exact z01 rfl
theorem zm6(x:Idv):PC prog 238 [z0z x] (.bool (decide (x=Idv.zero))):=by
 refine z14 1 rfl rfl (zqzj [] func238 rfl (by decide+kernel) rfl ?_)
 repeat'(first|((refine zqh fun K a=>?_);simp(disch:=omega)only[go_sem,Z0,↓reduceIte,Z2,Z1])|refine nxt ?_|refine zqU ?_|(refine a _ ?_;clear a K))
 exact z01 rfl
theorem z9u(u:T)(j:szB u=true)(e:cntT u<=1000000000)(n:depT u<=1000000000):PC prog 136 [z0o u] (.bool (standsT u)):=by
 have f:=pc_IDs u (zbx _ j) (by omega);have h:=pc_Valid u j e n;have p:(idsT u).length=cntT u:=by unfold idsT cntT;rw[Zu]
 have m:=zk0 u;have k:=z7s false (idsT u) (by unfold maxLen;omega) (g:=238) (cap:=[]) (fun x=>decide (x=Idv.zero)) rfl (fun x _=>zm6 x);have l:=z7s false ((idsT u).drop 1) (by rw[Zr];unfold maxLen;omega) (g:=238) (cap:=[]) (fun x=>decide (x=Idv.zero)) rfl (fun x _=>zm6 x);have o:List.drop 1 ((idsT u).map z0z)=((idsT u).drop 1).map z0z:=by rw[List.map_drop]
 refine z14 1 (by simp only[pureD.pureL,z02,Z3]) rfl (zqzj [] func136 rfl (by decide+kernel) rfl ?_)
 by_cases i:u.kind=0
 ·rw[show standsT u=(z6y u && !(((idsT u).drop 1).any fun x=>decide (x=Idv.zero))) from by unfold standsT;rw[if_pos i]]
  repeat'(first|refine nxt ?_|((first|refine zqh fun K d=>?_|refine zqs (f) ?_|refine zqs (h) ?_|refine zqs (l) ?_);simp(disch:=omega)only[go_sem,Z0,↓reduceIte,reduceCtorEq,Z2,Z1,Int.reduceLE,z2k,Int.toNat_one])|(refine zqd _ rfl ?_ ?_<;>intro e<;>(((try simp only[z05]at e);try omega)))|refine zqU ?_|(refine d _ ?_;clear d K)|(refine zqf (fun b=>?_) (fun b=>?_)<;>(have a:=b;try simp only[z05]at a)<;>((have c:(_:Bool)=_:=a);simp(disch:=omega)only[go_sem,Z0,↓reduceIte,b];clear b c;try omega)))
  all_goals exact z01 (by rw[a];rfl)
 ·rw[show standsT u=(z6y u && !((idsT u).any fun x=>decide (x=Idv.zero))) from by unfold standsT;rw[if_neg i]]
  repeat'(first|refine nxt ?_|((first|refine zqh fun K d=>?_|refine zqs (f) ?_|refine zqs (h) ?_|refine zqs (k) ?_);simp(disch:=omega)only[go_sem,Z0,↓reduceIte,reduceCtorEq,Z2,Z1,z2k])|(refine zqd _ rfl ?_ ?_<;>intro e<;>(((try simp only[z05]at e);try omega)))|refine zqU ?_|(refine d _ ?_;clear d K)|(refine zqf (fun b=>?_) (fun b=>?_)<;>(have a:=b;try simp only[z05]at a)<;>((have c:(_:Bool)=_:=a);simp(disch:=omega)only[go_sem,Z0,↓reduceIte,b];clear b c;try omega)))
  all_goals exact z01 (by rw[a];rfl)
end
section
open Abs Facts Tr
namespace Tr
theorem nest0(p:Int):z1h p 0=false:=by
 by_cases h:0<=p/\p<8
 ·rcases zry h with rfl|rfl|rfl|rfl|rfl|rfl|rfl|rfl<;>decide
 ·exact if_neg h
def zsj(t:T):Bool:=zgc (fun t l=>(decide (t.kind=0) ||decide (t.id≠Idv.zero))&&l.all id) t
theorem namedT_eq(t:T):zsj t=((decide (t.kind=0) ||decide (t.id≠Idv.zero))&&t.kids.all zsj):=by
 unfold zsj;rw[z3r,YN];rfl
theorem zft{t:T}(h:z3m t=true):∀k∈t.kids,z1h t.kind k.kind=true/\z3m k=true:=fun k a=>by
 rw[z42]at h;simp only[Zb,ZH]at h;exact⟨h.2.1 k a,h.2.2.1 k a⟩
theorem kid_no0{t:T}(h:z3m t=true):∀k∈t.kids,k.kind≠0:=fun k a e=>by
 have:=(zft h k a).1;rw[e,nest0]at this;cases this
theorem zeb:∀t:T,z3m t=true->(zsj t=true ↔ (t.kind=0 \/ t.id≠Idv.zero)/\Idv.zero∉t.kids.flatMap idsT):=by
 refine z4a fun t c h=>?_;rw[namedT_eq];simp only[Zb,YH,decide_eq_true_eq,ZH];refine and_congr_right fun _=>?_;constructor
 ·intro f b;obtain⟨k,a,hz⟩:=Z5.1 b;obtain⟨g1,d⟩:=(c k a (zft h k a).2).1 (f k a);rw[z1c,Z7]at hz;rcases hz with hz|hz
  ·rcases g1 with g1|g1
   ·exact kid_no0 h k a g1
   ·exact g1 hz.symm
  ·exact d hz
 ·intro hz k a;refine(c k a (zft h k a).2).2 ⟨.inr fun e=>hz (Z5.2 ⟨k,a,e ▸ z1b k⟩),fun b=>hz (Z5.2 ⟨k,a,?_⟩)⟩;rw[z1c];exact Z6 _ b
theorem any_zero(l:List Idv):(l.any fun x=>decide (x=Idv.zero))=decide (Idv.zero∈l):=by
 rw[YI,Yi,decide_eq_true_eq];constructor
 ·rintro⟨x,a,h⟩;rw[decide_eq_true_eq]at h;exact h ▸ a
 ·exact fun h=>⟨_,h,decide_eq_true rfl⟩
theorem zxb(t:T):(idsT t).drop 1=t.kids.flatMap idsT:=by rw[z1c];rfl
theorem zsk(t:T):standsT t=(z6y t&&zsj t):=by
 unfold standsT
 by_cases a:z6y t=true
 ·have c:z3m t=true:=by unfold z6y at a;simp only[Zb]at a;exact a.1
  rw[a,Yd,Yd,any_zero,YI,zeb t c];simp only[Bool.not_eq_true',decide_eq_false_iff_not]
  by_cases b:t.kind=0
  ·rw[if_pos b,zxb];exact⟨fun h=>⟨.inl b,h⟩,fun h=>h.2⟩
  ·rw[if_neg b,z1c,Z7]
   exact⟨fun h=>⟨.inr fun e=>h (.inl e.symm),fun hm=>h (.inr hm)⟩,fun⟨h1,h2⟩ hm=>by
    rcases hm with hm|hm
    ·rcases h1 with h1|h1
     ·exact b h1
     ·exact h1 hm.symm
    ·exact h2 hm⟩
 ·rw[ZI]at a;rw[a];rfl
theorem z18(t:T):standsT t=true ↔ z3m t=true/\depT t<=8/\cntT t<=1024/\(idsT t).Nodup/\(t.id=Idv.zero ↔ t.kind=0)/\Idv.zero∉t.kids.flatMap idsT:=by
 rw[zsk,Zb];unfold z6y idsB;simp only[Zb,decide_eq_true_eq,YH];constructor
 ·rintro⟨⟨d,f,g,a⟩,b⟩;rw[zeb t d]at b;refine⟨d,f,g,?_⟩;rcases a with a|⟨a,j⟩
  ·have k:∀i∈idsT t,i=Idv.zero:=fun i o=>by simpa using ZH.1 a i o
   have c:t.id=Idv.zero:=k _ (z1b t);have p:t.kind=0:=by
    rcases b.1 with h|h
    ·exact h
    ·exact(h c).elim
   have q:t.kids.flatMap idsT=[]:=by
    cases m:t.kids.flatMap idsT with
    |nil=>rfl
    |cons i l =>
     exfalso;refine b.2 ?_;have:i=Idv.zero:=k i (by rw[z1c,m];simp);rw[m,this];exact ZF
   rw[z1c,q];exact⟨by simp,⟨fun _=>p,fun _=>c⟩,by simp⟩
  ·exact⟨j,a,b.2⟩
 ·rintro⟨d,f,g,a,b,n⟩;refine⟨⟨d,f,g,.inr ⟨b,a⟩⟩,(zeb t d).2 ⟨?_,n⟩⟩
  by_cases c:t.kind=0
  ·exact .inl c
  ·exact .inr fun e=>c (b.1 e)
theorem zsl{t:T}(h:z3l t=true){m:List T}(a:m.length<=64):z3l (t.setKids m)=true:=by
 unfold z3l at h⊢;simp only[Zb,decide_eq_true_eq]at h⊢;exact⟨h.1,a,h.2.2⟩
theorem z8y{t:T}(h:z3m t=true):z3l t=true/\t.kids.length<=64:=by
 rw[z42]at h;simp only[Zb]at h;refine⟨h.1,?_⟩;have:=h.1;unfold z3l at this;simp only[Zb,decide_eq_true_eq]at this;exact this.2.1
theorem zij{l:List T}{x:T}:z2u l x.kind x.label=false ↔ z5r x∉l.map z5r:=by
 unfold z2u;rw[Y7];simp only[Zb,decide_eq_true_eq,Zl,not_exists,not_and];constructor
 ·intro h k a e;exact h k a (congrArg YK e) (congrArg Prod.snd e)
 ·intro h k a b c;exact h k a (by unfold z5r;rw[b,c])
theorem zv4(q x:T)(l r:List T):depT (q.setKids (l++x::r))=max (depT (q.setKids (l++r))) (1+depT x):=by
 rw[z5w,z5w (q.setKids (l++r))];show ze5 ((l++x::r).map depT)=max (ze5 ((l++r).map depT)) _;rw[Zn,Zg,zaf,zf0,Zn,zaf];omega
theorem zok(q x:T)(l r:List T):cntT (q.setKids (l++x::r))=cntT (q.setKids (l++r))+cntT x:=by
 rw[<-z3q,<-z3q,<-z3q,z29,z29,Z8,Zf,Z8];simp only[ZN,Z4];omega
theorem zcf(C:Ctx){x y:T}(a:x.id=y.id)(b:x.kind=y.kind):(z2s C x).id=(z2s C y).id/\(z2s C x).kind=(z2s C y).kind:=by
 cases C with
 |hole=>exact⟨a,b⟩
 |node t l c r=>exact⟨rfl,rfl⟩
theorem z9e(C:Ctx)(x:T):(z2s C x).kids.flatMap idsT=(z89 C++(idsT x++z4b C)).drop 1:=by rw[<-zxb,z2x]
theorem z003{C:Ctx}{q x:T}{l r:List T}(w:standsT (z2s C (q.setKids (l++r)))=true)(z:standsT x=true)(K:x.kind≠0)(L:z1h q.kind x.kind=true)(N:z2u (l++r) x.kind x.label=false)
  (k:(l++r).length<64) (Y:zyc C+1+depT x<=8) (J:cntT (z2s C (q.setKids (l++r)))+cntT x<=1024) (v:∀i∈idsT x,i∉idsT (z2s C (q.setKids (l++r)))):standsT (z2s C (q.setKids (l++x::r)))=true:=by
 rw[z18]at w z⊢;obtain⟨j,O,P,B,Q,c⟩:=w;obtain⟨R,Z,x3,U,W,X⟩:=z;rw[z4v]at j;obtain⟨M,s⟩:=zcf C (x:=q.setKids (l++x::r)) (y:=q.setKids (l++r)) rfl rfl;have f:idsT (q.setKids (l++x::r))=q.id::(l.flatMap idsT++(idsT x++r.flatMap idsT)):=by rw[z29,Z8,Zf]
 have d:idsT (q.setKids (l++r))=q.id::(l.flatMap idsT++r.flatMap idsT):=by rw[z29,Z8]
 refine⟨?_,?_,?_,?_,?_,?_⟩
 ·rw[z4v];refine⟨j.1,?_⟩;obtain⟨E,_⟩:=z8y j.2;have n:=zft j.2;have o:((l++r).map z5r).Nodup:=by
   have:=j.2;rw[z42]at this;simp only[Zb,decide_eq_true_eq]at this;exact this.2.2.2
  rw[zf1];refine⟨⟨?_,n,L,o,zij.1 N⟩,R⟩;exact zsl (t:=q.setKids (l++r)) E (m:=l++q::r) (by simp at k⊢;omega)
 ·rw[zag]at O⊢;rw[zv4];omega
 ·rw[z7c]at P J⊢;rw[zok];omega
 ·rw[z2x,f];rw[z2x,d]at B v;have s:(z89 C++(q.id::(l.flatMap idsT++(idsT x++r.flatMap idsT))++z4b C)).Perm (idsT x++(z89 C++(q.id::(l.flatMap idsT++r.flatMap idsT)++z4b C))):=by
   simp only[ZC,Z9];have F:(z89 C++q.id::(l.flatMap idsT++(idsT x++(r.flatMap idsT++z4b C))))=(z89 C++q.id::l.flatMap idsT)++(idsT x++(r.flatMap idsT++z4b C)):=by simp
   have G:(z89 C++q.id::(l.flatMap idsT++(r.flatMap idsT++z4b C)))=(z89 C++q.id::l.flatMap idsT)++(r.flatMap idsT++z4b C):=by simp
   rw[F,G];exact Yp _ _ _
  rw[s.nodup_iff,Zy];exact⟨U,B,fun a H b I e=>v a H (e ▸ I)⟩
 ·rw[M,s];exact Q
 ·intro g;have A:Idv.zero∉idsT x:=by
   rw[z1c,Z7];rintro(h|h)
   ·exact K (W.1 h.symm)
   ·exact X h
  rw[z9e,f]at g;rw[z9e,d]at c;cases u:z89 C with
  |nil =>
   rw[u]at g c;simp only[Zw,ZC,ZZ,ZT,Za,Z9]at g c;rcases g with h|h|h|h
   ·exact c (.inl h)
   ·exact A h
   ·exact c (.inr (.inl h))
   ·exact c (.inr (.inr h))
  |cons i p =>
   rw[u]at g c;simp only[ZC,ZZ,ZT,Za,Z7,Z9]at g c;rcases g with h|h|h|h|h|h
   ·exact c (.inl h)
   ·exact c (.inr (.inl h))
   ·exact c (.inr (.inr (.inl h)))
   ·exact A h
   ·exact c (.inr (.inr (.inr (.inl h))))
   ·exact c (.inr (.inr (.inr (.inr h))))
theorem z004{C:Ctx}{q x:T}{l r:List T}(z:standsT (z2s C (q.setKids (l++x::r)))=true):standsT (z2s C (q.setKids (l++r)))=true/\standsT x=true/\x.kind≠0/\z1h q.kind x.kind=true/\z2u (l++r) x.kind x.label=false /\
  (l++r).length<64/\zyc C+1+depT x<=8/\cntT (z2s C (q.setKids (l++r)))+cntT x<=1024/\(∀i∈idsT x,i∉idsT (z2s C (q.setKids (l++r)))):=by
 rw[z18]at z;obtain⟨A,O,P,B,Q,b⟩:=z;rw[z4v,zf1]at A;obtain⟨R,⟨s,u,j,E,F⟩,U⟩:=A;obtain⟨K,J⟩:=zcf C (x:=q.setKids (l++x::r)) (y:=q.setKids (l++r)) rfl rfl;have c:idsT (q.setKids (l++x::r))=q.id::(l.flatMap idsT++(idsT x++r.flatMap idsT)):=by rw[z29,Z8,Zf]
 have a:idsT (q.setKids (l++r))=q.id::(l.flatMap idsT++r.flatMap idsT):=by rw[z29,Z8]
 rw[zag,zv4]at O;rw[z7c,zok]at P;have f:(l++q::r).length<=64:=by
  have:=s;unfold z3l at this;simp only[Zb,decide_eq_true_eq]at this;exact this.2.1
 have n:(z89 C++(q.id::(l.flatMap idsT++(idsT x++r.flatMap idsT))++z4b C)).Perm (idsT x++(z89 C++(q.id::(l.flatMap idsT++r.flatMap idsT)++z4b C))):=by
  simp only[ZC,Z9];have G:(z89 C++q.id::(l.flatMap idsT++(idsT x++(r.flatMap idsT++z4b C))))=(z89 C++q.id::l.flatMap idsT)++(idsT x++(r.flatMap idsT++z4b C)):=by simp
  have H:(z89 C++q.id::(l.flatMap idsT++(r.flatMap idsT++z4b C)))=(z89 C++q.id::l.flatMap idsT)++(r.flatMap idsT++z4b C):=by simp
  rw[G,H];exact Yp _ _ _
 rw[z2x,c,n.nodup_iff,Zy]at B;obtain⟨L,M,N⟩:=B;have d:Idv.zero∉idsT x/\Idv.zero∉(z89 C++(q.id::(l.flatMap idsT++r.flatMap idsT)++z4b C)).drop 1:=by
  rw[z9e,c]at b;cases v:z89 C with
  |nil =>
   rw[v]at b;simp only[Zw,ZC,ZZ,ZT,Za,Z9]at b⊢
   exact⟨fun h=>b (.inr (.inl h)),fun h=>by
    rcases h with h|h|h
    ·exact b (.inl h)
    ·exact b (.inr (.inr (.inl h)))
    ·exact b (.inr (.inr (.inr h)))⟩
  |cons i p =>
   rw[v]at b;simp only[ZC,ZZ,ZT,Za,Z7,Z9]at b⊢
   exact⟨fun h=>b (.inr (.inr (.inr (.inl h)))),fun h=>by
    rcases h with h|h|h|h|h
    ·exact b (.inl h)
    ·exact b (.inr (.inl h))
    ·exact b (.inr (.inr (.inl h)))
    ·exact b (.inr (.inr (.inr (.inr (.inl h)))))
    ·exact b (.inr (.inr (.inr (.inr (.inr h)))))⟩
 have g:x.kind≠0:=fun e=>by rw[e,nest0]at j;cases j
 refine⟨?_,?_,g,j,zij.2 F,by simp at f⊢;omega,by omega,by rw[z7c];omega,fun i I w=>?_⟩
 ·rw[z18];refine⟨?_,by rw[zag];omega,by rw[z7c];omega,?_,by rw[<-K,<-J];exact Q,?_⟩
  ·rw[z4v];refine⟨R,?_⟩;rw[z42];show (z3l (q.setKids (l++r))&&(((l++r).all fun k=>z1h q.kind k.kind)&&((l++r).all z3m&&decide (((l++r).map z5r).Nodup))))=true;simp only[Zb,ZH,decide_eq_true_eq];exact⟨zsl (t:=q.setKids (l++q::r)) s (m:=l++r) (by simp at f⊢;omega),fun y o=>(u y o).1,fun y o=>(u y o).2,E⟩
  ·rw[z2x,a];exact M
  ·rw[z9e,a];exact d.2
 ·rw[z18];refine⟨U,by omega,by omega,L,⟨fun h=>(d.1 (h ▸ z1b x)).elim,fun h=>(g h).elim⟩,fun h=>d.1 ?_⟩;rw[z1c];exact Z6 _ h
 ·rw[z2x,a]at w;exact N i I i w rfl
theorem sz_set{t:T}(h:szB t=true){l:List T}(g:l.length<=1000000)(f:∀k∈l,szB k=true):szB (t.setKids l)=true:=by
 obtain⟨a,b,c,d,e,_,_⟩:=(z1k t).1 h;exact(z1k _).2 ⟨a,b,c,d,e,g,f⟩
theorem z79{t:T}(h:szB t=true):t.kids.length<=1000000/\∀k∈t.kids,szB k=true:=by
 obtain⟨_,_,_,_,_,a,b⟩:=(z1k t).1 h;exact⟨a,b⟩
theorem zol{id:Idv}:∀u:T,szB u=true->szB (z0q id u)=true:=by
 refine z4a fun u e h=>?_;rw[z4z];obtain⟨f,c⟩:=z79 h;refine sz_set h (by rw[Zu];have:=List.length_filter_le (z8i id) u.kids;omega) fun k d=>?_;obtain⟨b,a,rfl⟩:=Zl.1 d;exact e b (ZB.1 a).1 (c b (ZB.1 a).1)
end Tr
end
section
open Abs Facts Tr
attribute [local irreducible] awp
namespace Tr
theorem any_hit{α:Type}{f:α->Bool}{l:List α}{i:Nat}(h:i<l.length)(a:f l[i]=true):l.any f=true:=Yi.2 ⟨_,Zd h,a⟩
theorem zan{α:Type}{f:α->Bool}{l:List α}{i:Nat}(hi:i<l.length)(h:(l.take i).any f=false)(a:f l[i]=false):(l.take (i+1)).any f=false:=by
 rw[List.take_succ_eq_append_getElem hi,List.any_append,h];simp[a]
theorem any_done{α:Type}{f:α->Bool}{l:List α}{i:Nat}(hi:¬i<l.length)(h:(l.take i).any f=false):l.any f=false:=by
 rw[Zc (by omega)]at h;exact h
end Tr
end
section
open Abs Facts Go.Lib
variable {P:Program}
theorem z47(w:World)(n sT ty b:TypeId)(sz g o c e:Nat)(cur:Array Value)(a:Addr)(d l:Nat)(cs:List Value)
  (x:P.underlying n=some (.slice b)) (p:(P.info? b).map (·.size)=some sz) (u:cs.length=Yq d c*sz)
  (h:∀j v,cs[j]?=some v->w.cell? (a.add j)=some v) (r:w.heap[g]?=some (.cells cur b (0,0))) (f:o+cs.length<=cur.size) (q:∀v∈cs,v.oneCell'=true) :
  (Builtin.copy_ #[n,sT] ty #[.slice (some ⟨g,o,none⟩) c e,.slice (some a) d l]).run P w=.ok (goInt (Yq d c)) (w.setRow g (cur.toList.take o++cs++cur.toList.drop (o+cs.length)).toArray):=by
 have t:=run_loadCells_list (P:=P) w a cs h;have k:=run_storeCells_at P g o b cs 0 cur w r (by simpa using f) q;simp only[YO]at k;cases m:P.info? b with
 |none=>simp[m]at p
 |some i =>
  have s:i.size=sz:=by simpa [m] using p
  simp[Builtin.copy_,run_underlying x,Builtin.lenOf,Builtin.firstCells,sizeOf,typeInfo,m,s,<-u,t,k]
theorem zfu(w:World)(t e ty:TypeId)(z:Value)(sz g o n c:Nat)(cur:Array Value)(r:P.underlying t=some (.slice e))(s:∀w,(zeroValue e).run P w=.ok z w)(u:z.cells.size=sz)(l:∀v∈z.cells.toList,v.oneCell'=true)
    (x:0<n) (p:w.heap[g]?=some (.cells cur e (0,0))) (i:o+n*sz<=cur.size) :
    (Builtin.clear_ #[t] ty #[.slice (some ⟨g,o,none⟩) n c]).run P w=.ok (.tuple #[]) (w.setRow g (cur.toList.take o++(Builtin.zeroCells z.cells n).toList++cur.toList.drop (o+n*sz)).toArray):=by
  have a:(Builtin.zeroCells z.cells n).toList.length=n*sz:=by rw[ZA,size_zeroCells,u]
  have b:=run_storeCells_at P g o e (Builtin.zeroCells z.cells n).toList 0 cur w p (by rw[a];omega) (by
    intro v d;simp only[Builtin.zeroCells,Array.toList_map,Array.toList_range,Zl,List.mem_range]at d;obtain⟨k,q,rfl⟩:=d
    have j:0<z.cells.size:=by rcases Nat.eq_zero_or_pos z.cells.size with h|h;· rw[h]at q;omega
                              · exact h
    have f:=Nat.mod_lt k j;rw[getElem!_pos z.cells _ f]
    exact l _ (by simp))
  simp only[YO,a]at b;obtain⟨m,rfl⟩:∃m,n=m+1:=⟨n-1,by omega⟩
  simp[Builtin.clear_,run_underlying r,s,b]
theorem za6(w:World){c:Array Oper}{b:List Oper}{o:Oper}{a:Act}{Q:Exit->Act->World->Prop}(e:o.guard=none)(d:Operand)(t:TypeId)
  (k:o.op=.call { callee:=.builtin .clear,args := #[d],argTypes := #[t] }) (v:Value) (j:a.eval d=v) {f:Value}{g:World}
  (l:(Builtin.clear_ #[t] o.type #[v]).run P w=.ok f g) (h:wpList P c Q b (a.put o.dst f) g):wpList P c Q (o::b) a w:=by
 refine wpList_plain e fun K i=>?_;unfold Oper.wp execOp;simp only[k,resolve,invoke,builtin,Sem.run_bind,Sem.run_pure,Result.andThen_ok,List.map_toArray,Zg,List.map_nil,j,l];exact i _ _ h
theorem zfv{α β:Type}(x:α)(f:α->Sem β):(pure x:Sem α).bind f=f x:=rfl
theorem zb5(w:World)(tS tR e:TypeId)(ht:P.underlying tS=some (.slice e))(size:Nat)(hz:∀w,(Go.sizeOf e).run P w=.ok size w)
  (a b:Addr) (la ca lb cb:Nat) (hne:a.block≠b.block) (tA tB:TypeId) (kA kB:Nat)
  (hsa:w.shape? a.block=some (tA,kA)) (hsb:w.shape? b.block=some (tB,kB)) (hkA:kA≠0)
  (hfb:w.frozen? b=false) (hfe:w.frozen? { block:=b.block,off:=kB }=false) :
  (Extern.SlicesOverlaps.overlaps #[tS,tS] #[tR] #[.slice (some a) la ca,.slice (some b) lb cb]).run P w=.ok (.bool false) w:=by
 have hnb:(a.block != b.block)=true:=by simpa using hne
 have hnb':(a.block==b.block)=false:=by simpa using hne
 conv=>lhs;arg 2;whnf
 by_cases h0:la=0 \/ lb=0 \/ size=0
 ·simp[Sem.run,Sem.bind,zfv,ht,hz,h0]
 ·cases kA with
  |zero=>exact absurd rfl hkA
  |succ kA =>
   simp[Sem.bind,zfv,ht,hz,h0,hnb,hnb',frozen,noView,viewAt,mayBeOne,stringish,shape,Sem.run,hsa,hsb,hfb,hfe]
theorem zaw(w:World)(g:Nat)(a b:Array Value):(w.setRow g a).setRow g b=w.setRow g b:=by
 have:((w.setRow g a).setRow g b).heap=(w.setRow g b).heap:=by
  apply YC;intro k;simp only[World.setRow,Zs]
  by_cases h:g=k
  ·rw[if_pos h,if_pos h,if_pos h,Option.map_map]
   congr 1
   funext o
   cases o<;>rfl
  ·rw[if_neg h,if_neg h,if_neg h]
 show ({ w with heap:=((w.setRow g a).setRow g b).heap }:World)=_;rw[this]
 rfl
theorem zkp(a:Array Obj)(x:Obj)(f:Obj->Obj):(a.push x).modify a.size f=a.push (f x):=by
 apply YC;intro k;simp only[Zs,ZG]
 by_cases h:a.size=k
 ·subst h;simp
 ·rw[if_neg h]
  by_cases b:k=a.size
  ·exact absurd b.symm h
  ·rw[if_neg b,if_neg b]
theorem zsm{α:Type}{A B Z vs:List α}{i k m:Nat}(g:A.length=i)(h:B.length=k)(n:vs.length=m)(j:m+k<=Z.length) :
  let a:=(A++Z).take i++vs++(A++Z).drop (i+m)
  a.take (i+m)++B++a.drop (i+m+k)=A++vs++B++Z.drop (m+k):=by
 intro a;have d:(A++Z).take i=A:=by rw[Zp (by omega),Zc (by omega)]
 have e:(A++Z).drop (i+m)=Z.drop m:=by rw[ZJ,Zv (by omega),Zw];congr 1;omega
 have f:a=A++vs++Z.drop m:=by show _++vs++_=_;rw[d,e]
 have l:(A++vs).length=i+m:=by rw[Z4];omega
 rw[f];have b:(A++vs++Z.drop m).take (i+m)=A++vs:=by rw[Zp (by omega),Zc (by omega)]
 have c:(A++vs++Z.drop m).drop (i+m+k)=Z.drop (m+k):=by
  rw[ZJ,Zv (by omega),Zw,Yr];congr 1;omega
 rw[b,c]
theorem zmw{α:Type}{A B R vs:List α}{i k m:Nat}(b:A.length=i)(j:B.length=k)(n:vs.length=m)(l:m<=R.length) :
  let a:=(A++B++R).take (i+m)++B++(A++B++R).drop (i+m+k)
  a.take i++vs++a.drop (i+m)=A++vs++B++R.drop m:=by
 intro a;have e:(A++B++R).take (i+m)=A++(B++R).take m:=by rw[Z9,List.take_append,b,Zc (by omega)];congr 2;omega
 have f:(A++B++R).drop (i+m+k)=R.drop m:=by rw[ZJ,Zv (by rw[Z4];omega),Zw,Z4];congr 1;omega
 have h:((B++R).take m).length=m:=by rw[Zh,Z4];omega
 have g:a=A++((B++R).take m++(B++R.drop m)):=by show _++B++_=_;rw[e,f];simp only[Z9]
 rw[g];have c:(A++((B++R).take m++(B++R.drop m))).take i=A:=by rw[Zp (by omega),Zc (by omega)]
 have d:(A++((B++R).take m++(B++R.drop m))).drop (i+m)=B++R.drop m:=by
  rw[ZJ,Zv (by omega),Zw,b,ZR,ZJ,Zv (by omega),Zw,h,Yw,ZT]
 rw[c,d];simp only[Z9]
end
section
open Abs Facts Go.Lib Go.Shelf Go.RowKit
set_option maxHeartbeats 4000000 in
theorem ins_end{w:World}{v:Value}{n m:Nat}{a:Addr}{c:Nat}{cap:Nat}{b:Option Addr}(j:0<m)(f:v=.slice b n cap)(v':Value)(w':World)
  (d:∀h,(Builtin.append_ #[25,25] h #[v,.slice (some a) m c]).run prog w=.ok v' w') :
  Calls prog 201 #[v,.int .i64 n,.slice (some a) m c] w fun e i=>e=.returned v'/\i=w':=by
 subst f;have g:¬((m:Int)=0):=by omega
 go_enter func201,ntmps201
 go_wp2_with (at_builtin;refine Lib.wpList_append_run _ rfl _ _ _ _ rfl _ _ rfl rfl _ _ (d _) ?_)
 all_goals (go_ret;exact⟨rfl,rfl⟩)
set_option maxHeartbeats 4000000 in
theorem ins_shift{w:World}{g n cap i m vc:Nat}{va:Addr}{cur:Array Value}{A B R vs:List Value}(hi:i<n)(hm:0<m)(L:n+m<=cap)(X:cap<=9223372036854775807)
  (q:w.heap[g]?=some (.cells cur 27 (0,0))) (b:cur.toList=A++B++R) (y:A.length=i*8) (r:B.length=(n-i)*8) (Z:m*8<=R.length)
  (x:va.block≠g) (l:vs.length=m*8) (O:∀j v,vs[j]?=some v->w.cell? (va.add j)=some v) (E:∀v∈B,v.oneCell'=true) (F:∀v∈vs,v.oneCell'=true)
  (Y:TypeId) (Q:Nat) (M:w.shape? va.block=some (Y,Q)) (J:Q≠0) :
  Calls prog 201 #[.slice (some ⟨g,0,none⟩) n cap,.int .i64 i,.slice (some va) m vc] w fun e w2=>e=.returned (.slice (some ⟨g,0,none⟩) (n+m) cap)/\w2=w.drew.setRow g (A++vs++B++R.drop (m*8)).toArray:=by
 have a7:¬((m:Int)=0):=by omega
 have a8:¬((i:Int)=(n:Int)):=by omega
 have o:prog.underlying 25=some (.slice 27):=rfl;have u:(prog.info? 27).map (·.size)=some 8:=rfl;have a6:IntKind.i64.wrap ((i:Int)+(m:Int))=(i:Int)+(m:Int):=by rw[IntKind.wrap_i64];omega
 have a0:(0:Int)<=(i:Int)+(m:Int):=by omega
 have a4:i<=n:=by omega
 have a5:((i:Int)+(m:Int)).toNat=i+m:=by omega
 have a1:¬(cap=i+m):=by omega
 have a2:(i:Int)<=(n:Int)+(m:Int):=by omega
 have a3:¬(cap=i):=by omega
 have N:cur.size=i*8+(n-i)*8+R.length:=by rw[<-ZA,b,Z4,Z4,y,r]
 have K:∀U C,(callFunc 280 #[.slice (some va) m vc,.slice (some ⟨g,(i+m)*8,none⟩) U C]).run prog w=.ok (.value (.bool false)) w:=fun U C=>by
  rw[run_callFunc_extern func280 (by kernel_rfl) (by kernel_rfl) (by kernel_rfl) (e:=Extern.SlicesOverlaps.overlaps #[25,25] #[4]) (by kernel_rfl),
   zb5 w 25 4 27 o 8 (fun _=>rfl) va ⟨g,(i+m)*8,none⟩ m vc U C x Y 27 Q cur.size M (by simp[World.shape?,q]) J (by simp[World.frozen?,q]) (by simp[World.frozen?,q])]
  rfl
 have d:∀p f W,(Builtin.copy_ #[25,25] p #[.slice (some ⟨g,(i+m)*8,none⟩) (n+m-(i+m)) f,.slice (some ⟨g,i*8,none⟩) (n+m-i) W]).run prog w.drew=.ok (goInt (Yq (n+m-i) (n+m-(i+m)))) (w.drew.setRow g ((A++B++R).take (i*8+m*8)++B++(A++B++R).drop (i*8+m*8+(n-i)*8)).toArray):=fun p f W=>by
  have h:=z47 (P:=prog) w.drew 25 25 p 27 8 g ((i+m)*8) (n+m-(i+m)) f cur ⟨g,i*8,none⟩ (n+m-i) W B o u (by rw[r];congr 1;simp only[Yl];split<;>omega)
   (fun j v z=>by
    rw[Addr.add_lit];show w.cell? _=_;have:cur.toList[i*8+j]?=some v:=by rw[b,Z9,Y1 (by omega),y,ZR,Y5 ((Y6.1 z).1)];exact z
    simp only[World.cell?,q]
    simpa using this) q (by omega) E
  rw[b,r,ZS]at h;rw[ZS];exact h
 obtain⟨a,c⟩:∃a,a=(A++B++R).take (i*8+m*8)++B++(A++B++R).drop (i*8+m*8+(n-i)*8):=⟨_,rfl⟩
 rw[<-c]at d;have t:(w.drew.setRow g a.toArray).heap[g]?=some (.cells a.toArray 27 (0,0)):=by
  have I:w.drew.heap[g]?=some (.cells cur 27 (0,0)):=q;simp[World.setRow,Zs,I]
 have H:a.length=cur.size:=by
  rw[c,Z4,Z4,Zh,Zr,Z4,Z4,y,r,N];omega
 have s:∀p f,(Builtin.copy_ #[25,25] p #[.slice (some ⟨g,i*8,none⟩) (n+m-i) f,.slice (some va) m vc]).run prog (w.drew.setRow g a.toArray)=.ok (goInt (Yq m (n+m-i))) (w.drew.setRow g (A++vs++B++R.drop (m*8)).toArray):=fun p f=>by
  have h:=z47 (P:=prog) (w.drew.setRow g a.toArray) 25 25 p 27 8 g (i*8) (n+m-i) f a.toArray va m vc vs o u (by rw[l];congr 1;simp only[Yl];split<;>omega)
   (fun j v z=>by
    rw[World.cell?_of_block (w:=w)]
    ·exact O j v z
    ·show (w.drew.setRow g a.toArray).heap[(va.add j).block]?=_;have:(va.add j).block=va.block:=by unfold Addr.add;split<;>rfl
     rw[this];simp only[World.setRow,Zs];rw[if_neg (fun h=>x h.symm)]
     rfl) t (by simp;omega) F
  have G:=zmw (α:=Value) (A:=A) (B:=B) (R:=R) (vs:=vs) (i:=i*8) (k:=(n-i)*8) (m:=m*8) y r l Z;simp only at G;rw[<-c]at G;rw[l,show a.toArray.toList=a from rfl,G,zaw]at h;exact h
 clear c t H;have z5x:prog.follows .mixedOrders=true:=by kernel_rfl
 go_enter func201,ntmps201
 go_wp2_with (simp only[K])
 go_region_law_o (refine step_copy_runI rfl _ _ 25 25 rfl _ _ (by simp[Act.eval,Act.put]) (by simp[Act.eval,Act.put]) (d _ _ _) ?_)
 go_wp2_with (at_builtin;refine wpList_copy_runI _ rfl _ _ 25 25 rfl _ _ rfl rfl (s _ _) ?_)
 all_goals (go_ret;exact⟨rfl,by simp only[Z9]⟩)
def GrewTo(w:World)(k:Nat)(xs:List Value)(e:Ending)(a:World):Prop :=
 ∃G Y,e=.returned (.slice (some ⟨w.heap.size,0,none⟩) k G)/\k<=G/\G<=maxLen/\Y.length=(G-k)*8 /\
  a.heap=w.heap.push (.cells (xs++Y).toArray 27 (0,0))/\a.os=w.os/\a.tape=w.tape/\a.output=w.output
set_option maxHeartbeats 4000000 in
theorem ins_grow{w:World}{g n cap i m vc:Nat}{va:Addr}{A B vs:List Value}(hi:i<n)(hm:0<m)(hnc:n<=cap)(hroom:cap<n+m)(hbig:(n+m)*z2l prog 27<=140737488355328)(h63:n+m<=maxLen)
  (hA:A.length=i*8) (hB:B.length=(n-i)*8) (hcs:∀j v,(A++B)[j]?=some v->w.cell? ⟨g,j,none⟩=some v)
  (hvl:vs.length=m*8) (hvs:∀j v,vs[j]?=some v->w.cell? (va.add j)=some v) (h1c:∀v∈B,v.oneCell'=true) (h1v:∀v∈vs,v.oneCell'=true) :
  Calls prog 201 #[.slice (some ⟨g,0,none⟩) n cap,.int .i64 i,.slice (some va) m vc] w (GrewTo w (n+m) (A++vs++B)):=by
 have hz1:¬((m:Int)=0):=by omega
 have hz2:¬((i:Int)=(n:Int)):=by omega
 have hz3:(cap:Int)<(n:Int)+(m:Int):=by omega
 have t25:prog.underlying 25=some (.slice 27):=rfl;have t3:prog.underlying 3=some (.int .i64):=rfl;have hsz:(prog.info? 27).map (·.size)=some 8:=rfl;obtain⟨i0,z,hi0,hz0,hzs⟩:=z52 (P:=prog) (t:=27) (by kernel_rfl);have hi8:i0.size=8:=by rw[hi0]at hsz;simpa using hsz
 have hzs8:z.cells.size=8:=by rw[hzs];exact z35
 have hby:i0.bytes=z2l prog 27:=by simp[z2l,hi0]
 have hik:i+(n+m-i)=n+m:=by omega
 have hAv:∀j v,A[j]?=some v->w.cell? ⟨g,j,none⟩=some v:=fun j v h=>hcs j v (by rw[Y5 ((Y6.1 h).1)];exact h);have hBv:∀j v,B[j]?=some v->w.cell? ⟨g,i*8+j,none⟩=some v:=fun j v h=>hcs _ v (by rw[Y1 (by omega),hA,ZR];exact h);have hbw:g<w.heap.size:=by
  have h0:0<B.length:=by rw[hB];omega
  exact block_lt_of_cell (hBv 0 _ (ZD h0))
 have hvw:va.block<w.heap.size:=by
  have h0:0<vs.length:=by rw[hvl];omega
  have:=block_lt_of_cell (hvs 0 _ (ZD h0));have h2:(va.add 0).block=va.block:=by unfold Addr.add;split<;>rfl
  rwa [h2]at this
 have hold:(Builtin.firstCells i0.size i (.slice (some ⟨g,0,none⟩) i cap)).run prog w.drew=.ok A.toArray w.drew:=by
  rw[hi8];exact run_firstCells_some w.drew 8 i ⟨g,0,none⟩ i cap A (by rw[hA]) (fun j v hj=>by rw[Addr.add_lit,Yh];exact hAv j v hj)
 obtain⟨G,hG⟩:∃G,G=grownCap w (n+m) cap 27:=⟨_,rfl⟩
 obtain⟨Z,hZ⟩:∃Z,Z=(Builtin.zeroCells z.cells (n+m-i)++Builtin.zeroCells z.cells (G-(n+m))).toList:=⟨_,rfl⟩
 have hGn:n+m<=G:=by rw[hG];exact grownCap_ge w _ _ _
 have hG63:G<=maxLen:=by rw[hG];exact grownCap_le_maxLen w (n+m) cap 27 h63
 have hZl:Z.length=(G-i)*8:=by
  rw[hZ,ZA,Array.size_append,size_zeroCells,size_zeroCells,hzs8,<-ZS];congr 1;omega
 have hrz:∀ty,(Builtin.append_ #[25,3] ty #[.slice (some ⟨g,0,none⟩) i cap,.int .i64 ((n:Int)+(m:Int)-(i:Int))]).run prog w =
   .ok (.slice (some ⟨w.heap.size,0,none⟩) (n+m) G) (w.drew.alloc (.cells (A++Z).toArray 27)):=fun ty=>by
  have h:=Lib.run_append_grow_zeros (P:=prog) w 25 3 ty 27 i0 z .i64 .i64 t25 t3 hi0 hz0 (some ⟨g,0,none⟩) i cap A hold (n+m-i) (by omega) (by omega) (by omega) (by simp only[maxLen]at h63;omega)
   (by rw[hby];have:=Yy (z2l prog 27) (show n+m-i<=n+m by omega);omega) (by rw[hby,hik];exact growslice_fits hroom hbig)
  rw[hik,<-hG]at h;rw[show (n:Int)+(m:Int)-(i:Int)=((n+m-i:Nat):Int) by omega,h,hZ]
  congr 3
  apply Array.ext';simp
 obtain⟨W1,hW1⟩:∃W1,W1=w.drew.alloc (.cells (A++Z).toArray 27):=⟨_,rfl⟩
 have hheap:W1.heap=w.heap.push (.cells (A++Z).toArray 27 (0,0)):=by rw[hW1];rfl
 have hOb:∀(W:World) (x:List Value) (j:Nat) (b:Nat) (v:Value),W.heap=w.heap.push (.cells x.toArray 27 (0,0))->b<w.heap.size->∀sp,w.cell? ⟨b,j,sp⟩=some v->W.cell? ⟨b,j,sp⟩=some v:=fun W x j b v hW hb sp h=>by
  rw[World.cell?_of_block (w:=w)]
  ·exact h
  ·show W.heap[b]?=_;rw[hW,ZG,if_neg (by omega)]
 obtain⟨c1,hc1⟩:∃c1,c1=(A++Z).take (i*8)++vs++(A++Z).drop (i*8+m*8):=⟨_,rfl⟩
 have hcl:c1.length=A.length+Z.length:=by
  rw[hc1,Z4,Z4,Zh,Zr,Z4,hA,hvl,hZl];omega
 obtain⟨Y,hY⟩:∃Y,Y=Z.drop (m*8+(n-i)*8):=⟨_,rfl⟩
 have hYl:Y.length=(G-(n+m))*8:=by rw[hY,Zr,hZl];omega
 have hrow:∀(W:World) (x y:List Value),W.heap=w.heap.push (.cells x.toArray 27 (0,0))->(W.setRow w.heap.size y.toArray).heap=w.heap.push (.cells y.toArray 27 (0,0)):=fun W x y hW=>by
  unfold World.setRow;simp only;rw[hW,zkp]
 have hcpA:∀(W:World),W.heap=W1.heap->∀ty dc,(Builtin.copy_ #[25,25] ty #[.slice (some ⟨w.heap.size,i*8,none⟩) (n+m-i) dc,.slice (some va) m vc]).run prog W=.ok (goInt (Yq m (n+m-i))) (W.setRow w.heap.size c1.toArray):=fun W hW ty dc=>by
  rw[hheap]at hW;have hgW:W.heap[w.heap.size]?=some (.cells (A++Z).toArray 27 (0,0)):=by rw[hW,ZG,if_pos rfl]
  have h:=z47 (P:=prog) W 25 25 ty 27 8 w.heap.size (i*8) (n+m-i) dc (A++Z).toArray va m vc vs t25 hsz (by rw[hvl];congr 1;simp only[Yl];split<;>omega)
   (fun j v hj=>by
    have:=hvs j v hj;unfold Addr.add at this⊢
    split at this<;>rename_i hsp<;>simp only[hsp]<;>exact hOb W _ _ _ _ hW hvw _ this) hgW (by rw[ZM,Z4,hA,hvl,hZl];omega) h1v
  rw[hvl]at h;rw[hc1];exact h
 have hcpB:∀(W:World),W.heap=(W1.setRow w.heap.size c1.toArray).heap->∀ty dc sc,(Builtin.copy_ #[25,25] ty #[.slice (some ⟨w.heap.size,(i+m)*8,none⟩) (n+m-(i+m)) dc,.slice (some ⟨g,i*8,none⟩) (n-i) sc]).run prog W=.ok (goInt (Yq (n-i) (n+m-(i+m)))) (W.setRow w.heap.size (A++vs++B++Y).toArray):=fun W hW ty dc sc=>by
  rw[hrow W1 _ _ hheap]at hW;have hgW:W.heap[w.heap.size]?=some (.cells c1.toArray 27 (0,0)):=by rw[hW,ZG,if_pos rfl]
  have h:=z47 (P:=prog) W 25 25 ty 27 8 w.heap.size ((i+m)*8) (n+m-(i+m)) dc c1.toArray ⟨g,i*8,none⟩ (n-i) sc B t25 hsz (by rw[hB];congr 1;simp only[Yl];split<;>omega)
   (fun j v hj=>by rw[Addr.add_lit];exact hOb W _ _ _ _ hW hbw _ (hBv j v hj)) hgW (by rw[ZM,hcl,hA,hB,hZl];omega) h1c
  have h2:=zsm (α:=Value) (A:=A) (B:=B) (Z:=Z) (vs:=vs) (i:=i*8) (k:=(n-i)*8) (m:=m*8) hA hB hvl (by rw[hZl];omega);simp only at h2;rw[<-hc1,<-hY]at h2;rw[hB,show c1.toArray.toList=c1 from rfl,ZS,h2]at h;rw[ZS];exact h
 have hfin:∀(W:World),W.heap=(W1.setRow w.heap.size c1.toArray).heap->(W.setRow w.heap.size (A++vs++B++Y).toArray).heap=w.heap.push (.cells (A++vs++B++Y).toArray 27 (0,0)):=fun W hW=>hrow W c1 _ (hW.trans (hrow W1 _ _ hheap));have hGi:¬(G=i):=by omega
 have hGim:¬(G=i+m):=by omega
 have hci:¬(cap=i):=by omega
 have hw1:IntKind.i64.wrap ((i:Int)+(m:Int))=(i:Int)+(m:Int):=by simp only[maxLen]at h63;rw[IntKind.wrap_i64];omega
 have h63b:n+m<=9223372036854775807:=h63;have hG63b:G<=9223372036854775807:=hG63;have hb1:(0:Int)<=(i:Int)+(m:Int):=by omega
 have hin:i<=n:=by omega
 have htn:((i:Int)+(m:Int)).toNat=i+m:=by omega
 have hb3:(i:Int)<=(n:Int):=by omega
 have z5x:prog.follows .mixedOrders=true:=by kernel_rfl
 have hfinal:∀(W:World),W.heap=(W1.setRow w.heap.size c1.toArray).heap->W.os=w.os->W.tape=w.tape->W.output=w.output->GrewTo w (n+m) (A++vs++B) (.returned (.slice (some ⟨w.heap.size,0,none⟩) (n+m) G)) (W.setRow w.heap.size (A++vs++B++Y).toArray):=fun W hW h1 h2 h3=>⟨G,Y,rfl,hGn,hG63,hYl,hfin W hW,h1,h2,h3⟩
 clear hfin;subst hW1;obtain⟨r0,hr0⟩:∃r0:Array Value,r0=(A++Z).toArray:=⟨_,rfl⟩
 obtain⟨r1,hr1⟩:∃r1:Array Value,r1=c1.toArray:=⟨_,rfl⟩
 obtain⟨r2,hr2⟩:∃r2:Array Value,r2=(A++vs++B++Y).toArray:=⟨_,rfl⟩
 simp only[<-hr0,<-hr1,<-hr2]at *;clear hcs h63 hG63 hik hold hG hZ hZl hc1 hY hrow hheap hOb hAv hBv hcl hr0 hr1 hr2 hvs;have hE:((w.alloc (.cells r0 27)).drew).heap=(w.drew.alloc (.cells r0 27)).heap:=rfl;have hF:(((w.alloc (.cells r0 27)).drew.setRow w.heap.size r1).drew).heap=((w.drew.alloc (.cells r0 27)).setRow w.heap.size r1).heap:=rfl
 go_enter func201,ntmps201
 go_wp2_with (first
  |(at_builtin;refine Lib.wpList_append_run _ rfl _ _ _ _ rfl _ _ rfl rfl _ _ (hrz _) ?_)
  |(at_builtin;refine wpList_copy_runI _ rfl _ _ 25 25 rfl _ _ rfl rfl (hcpA _ hE _ _) ?_))
 go_region_law_o (refine step_copy_runI rfl _ _ 25 25 rfl (.slice (some ⟨w.heap.size,(i+m)*8,none⟩) (n+m-(i+m)) (G-(i+m))) (.slice (some ⟨g,i*8,none⟩) (n-i) (cap-i)) (by simp[Act.eval,Act.put]) (by simp[Act.eval,Act.put]) (hcpB _ hF _ _ _) ?_)
 go_wp2
 all_goals (go_ret;first|exact hfinal _ hF rfl rfl rfl|(simp only[Z9]at hfinal⊢;exact hfinal _ hF rfl rfl rfl))
set_option maxHeartbeats 1000000 in
theorem zxi{w:World}{v:Value}{n i m vc:Nat}{va:Addr}{xs vs:List Value}(hi:i<=n)(hm:0<m)(f:w.ownsRow 0 27 8 v n xs)(L:z7a xs)
  (y:(n+m)*z2l prog 27<=140737488355328) (F:n+m<=maxLen) (a6:v.ownBlock≠some va.block)
  (d:vs.length=m*8) (r:∀j u,vs[j]?=some u->w.cell? (va.add j)=some u) (z:z7a vs) :
  Calls prog 201 #[v,.int .i64 i,.slice (some va) m vc] w fun e N=>∃E,e=.returned E/\N.ownsRow 0 27 8 E (n+m) (xs.take (i*8)++vs++xs.drop (i*8))/\w.grownBy N v.ownBlock /\
   (∀b,blockOf E=some b->blockOf v=some b \/ w.heap.size<=b):=by
 have M:=f.1;obtain⟨tA,U,a5,a3⟩:∃tA U,w.shape? va.block=some (tA,U)/\U≠0:=by
  have h0:0<vs.length:=by rw[d];omega
  have q:=r 0 _ (ZD h0);have W:(va.add 0).block=va.block:=by unfold Addr.add;split<;>rfl
  unfold World.cell? at q;rw[W]at q;unfold World.shape?;split at q
  ·rename_i c t fz Q;refine⟨t,c.size,rfl,fun h3=>?_⟩;split at q
   ·cases q
   ·rw[Array.getElem?_eq_none (by omega)]at q;cases q
  ·cases q
 by_cases a2:i=n
 ·subst a2;obtain⟨E,N,hr,o,O,Z,_⟩:=z5z (P:=prog) (ty:=0) (t:=25) (e:=27) rfl (by rw[z35];omega) (by kernel_rfl) (v:=v) (n:=i) (m:=m) (xs:=xs) (vs:=vs) (by rw[z35];exact f) y F (.inr ⟨va,vc,rfl,z,by rw[z35];exact d,r⟩);rw[z35]at o;obtain⟨a,c,a7⟩:=z7f f;refine(ins_end (v':=E) (w':=N) hm a7 (fun ty=>hr)).mono ?_;rintro e w2 ⟨rfl,rfl⟩;refine⟨E,rfl,?_,O,Z⟩;rw[Zc (by omega),Zv (by omega),Yn];exact o
 ·rcases f.2 with ⟨rfl,rfl⟩|⟨g,cap,l,rfl,_,O,a4,J,a0,C⟩
  ·omega
  ·have s:(xs.take (i*8)).length=i*8:=by rw[Zh,M];omega
   have x:(xs.drop (i*8)).length=(n-i)*8:=by rw[Zr,M];omega
   have I:l.toList.length=cap*8:=by rw[ZA];exact a0
   by_cases p:n+m<=cap
   ·refine(ins_shift (w:=w) (g:=g) (n:=n) (cap:=cap) (i:=i) (m:=m) (vc:=vc) (va:=va) (cur:=l) (A:=xs.take (i*8)) (B:=xs.drop (i*8)) (R:=l.toList.drop (n*8)) (vs:=vs) (by omega) hm p (by simp only[maxLen]at J;omega) O
     (by rw[Ze,<-C,Ze]) s x (by rw[Zr,I];omega) (fun h=>a6 (by rw[Value.ownBlock,h])) d r (fun u hu=>L u (Yc hu)) z tA U a5 a3).mono ?_
    rintro e w2 ⟨rfl,rfl⟩;refine⟨_,rfl,⟨?_,.inr ⟨g,cap,(xs.take (i*8)++vs++xs.drop (i*8)++(l.toList.drop (n*8)).drop (m*8)).toArray,rfl,Yz _,?_,p,J,?_,?_⟩⟩,⟨rfl,rfl,rfl,by simp[World.setRow],fun k hk K=>?_⟩,fun b X=>.inl X⟩
    ·rw[Z4,Z4,s,x,d];omega
    ·have a1:w.drew.heap[g]?=some (.cells l 27 (0,0)):=O;simp[World.setRow,Zs,a1]
    ·rw[ZM,Z4,Z4,Z4,s,x,d,Zr,Zr,I];omega
    ·exact Yo (by rw[Z4,Z4,s,x,d];omega)
    ·simp only[World.setRow,Zs];rw[if_neg (fun h=>K (by rw[Value.ownBlock,h]))]
     rfl
   ·refine(ins_grow (w:=w) (g:=g) (n:=n) (cap:=cap) (i:=i) (m:=m) (vc:=vc) (va:=va) (A:=xs.take (i*8)) (B:=xs.drop (i*8)) (vs:=vs) (by omega) hm a4 (by omega) y F s x
     (by rw[Ze];intro j u hj;have:=f.cells (g:=g) rfl j u hj;rwa [Addr.add_lit,Yh]at this) d r (fun u hu=>L u (Yc hu)) z).mono ?_
    rintro e w2 ⟨G,Y,rfl,hG,H,hY,Q,q,W,h3⟩;refine⟨_,rfl,⟨?_,.inr ⟨w.heap.size,G,_,rfl,Yz _,by rw[Q,ZG,if_pos rfl],hG,H,?_,?_⟩⟩,⟨q,W,h3,by rw[Q,Array.size_push];omega,fun k hk K=>by rw[Q,ZG,if_neg (by omega)]⟩,fun b X=>.inr ?_⟩
    ·rw[Z4,Z4,s,x,d];omega
    ·rw[ZM,Z4,Z4,Z4,s,x,d,hY];omega
    ·exact Yo (by rw[Z4,Z4,s,x,d];omega)
    ·simp only[blockOf,Y8]at X;omega
end
section
open Abs Facts Go.Lib Go.Shelf Go.RowKit
theorem zhs{P:Program}{b:Array Oper}{o:Oper}{a:Act}{w:World}{K:Act->World->Prop}{Q:Exit->Act->World->Prop}{E:Prop}
  (j:o.guard=none) (d x:Operand) (e sT:TypeId) (c:o.op=Op.call { callee:=Callee.builtin Builtin.append,args := #[d,x],argTypes := #[e,sT] })
  (v u:Value) (i:a.eval d=v) (m:a.eval x=u) {f:Value}{g:World}(k:(Builtin.append_ #[e,sT] o.type #[v,u]).run P w=.ok f g) (h:K (a.put o.dst f) g) :
  if Region.wanted o (yielded b a.tmps)=true then Oper.wp P o a w K Q else E:=by
 have l:Region.wanted o (yielded b a.tmps)=true:=by simp[Region.wanted,j]
 rw[if_pos l];unfold Oper.wp;simp[execOp,c,resolve,invoke,builtin,i,m,k,Result.andThen];exact h
theorem del_list{α:Type}{A M C R:List α}{i k m:Nat}(c:List α)(h:A.length=i)(l:M.length=k)(j:C.length=m)(o:c.length=k) :
  let a:=(A++M++C++R).take i++C++(A++M++C++R).drop (i+m)
  a.take (i+m)++c++a.drop (i+m+k)=A++C++c++R:=by
 intro a;have f:(A++M++C++R).take i=A:=by rw[Z9,Z9,Zp (by omega),Zc (by omega)]
 have n:(A++M++C++R).length=i+k+m+R.length:=by simp only[Z4];omega
 have g:a=A++C++(A++M++C++R).drop (i+m):=by show _++C++_=_;rw[f]
 have b:(A++C).length=i+m:=by rw[Z4];omega
 rw[g];have d:(A++C++(A++M++C++R).drop (i+m)).take (i+m)=A++C:=by rw[Zp (by omega),Zc (by omega)]
 have e:(A++C++(A++M++C++R).drop (i+m)).drop (i+m+k)=R:=by
  rw[ZJ,Zv (by omega),Zw,b,ZR,Yr,ZJ,Zv (by simp only[Z4];omega),Zw];have:i+m+k-(A++M++C).length=0:=by simp only[Z4];omega
  rw[this,ZT]
 rw[d,e]
set_option maxHeartbeats 4000000 in
theorem del_row{w:World}{g n cap i j:Nat}{cur:Array Value}{A M C R:List Value}(a5:i<j)(hj:j<=n)(a7:n<=cap)(a2:cap<=9223372036854775807)
  (W:w.heap[g]?=some (.cells cur 27 (0,0))) (a:cur.toList=A++M++C++R) (hA:A.length=i*8) (hM:M.length=(j-i)*8) (N:C.length=(n-j)*8) (O:∀v∈C,v.oneCell'=true) :
  Calls prog 267 #[.slice (some ⟨g,0,none⟩) n cap,.int .i64 i,.int .i64 j] w fun e w2=>e=.returned (.slice (some ⟨g,0,none⟩) (i+(n-j)) cap)/\∃c:List Value,c.length=(j-i)*8/\w2=w.drew.setRow g (A++C++c++R).toArray:=by
 have K:prog.underlying 25=some (.slice 27):=rfl;have G:(prog.info? 27).map (·.size)=some 8:=rfl;obtain⟨i0,z,f,I,a0⟩:=z52 (P:=prog) (t:=27) (by kernel_rfl);have q:i0.size=8:=by rw[f]at G;simpa using G
 have o:z.cells.size=8:=by rw[a0];exact z35
 have a1:∀w,(zeroValue 27).run prog w=.ok z w:=fun w=>by simp[zeroValue,typeInfo,f,I]
 have Y:cur.size=i*8+(j-i)*8+(n-j)*8+R.length:=by rw[<-ZA,a];simp only[Z4];omega
 obtain⟨x,Q,l⟩:∃x:Addr,(if cap=j then some (⟨g,0,none⟩:Addr) else some ⟨g,j*8,none⟩)=some x/\∀t u,C[t]?=some u->w.drew.cell? (x.add t)=some u:=by
  by_cases h:cap=j
  ·refine⟨⟨g,0,none⟩,by simp[h],fun t u H=>?_⟩;have:C=[]:=List.eq_nil_of_length_eq_zero (by rw[N];omega);rw[this]at H;simp at H
  ·refine⟨⟨g,j*8,none⟩,by simp[h],fun t u H=>?_⟩;rw[Addr.add_lit];show w.cell? _=_;have y:cur.toList[j*8+t]?=some u:=by
    rw[a,Z9,Y1 (by simp only[Z4];omega)];have h3:j*8+t-(A++M).length=t:=by simp only[Z4];omega
    rw[h3,Y5 ((Y6.1 H).1)];exact H
   simp only[World.cell?,W]
   simpa using y
 obtain⟨b,d⟩:∃b,b=(A++M++C++R).take (i*8)++C++(A++M++C++R).drop (i*8+(n-j)*8):=⟨_,rfl⟩
 have B:b.length=cur.size:=by
  rw[d];simp only[Z4,Zh,Zr];omega
 have U:∀s p,(Builtin.append_ #[25,25] s #[.slice (some ⟨g,0,none⟩) i cap,.slice (some x) (n-j) p]).run prog w.drew=.ok (.slice (some ⟨g,0,none⟩) (i+(n-j)) cap) (w.drew.setRow g b.toArray):=fun s p=>by
  have h:=run_append_room (P:=prog) w.drew 25 s 27 i0 K f g i cap cur W x (n-j) p C (by rw[N,q]) l O (by omega) (by rw[q];omega);rw[q,a,N,<-d]at h;exact h
 have F:(w.drew.setRow g b.toArray).heap[g]?=some (.cells b.toArray 27 (0,0)):=by
  have X:w.drew.heap[g]?=some (.cells cur 27 (0,0)):=W;simp[World.setRow,Zs,X]
 obtain⟨c,r,J⟩:∃c:List Value,c.length=(j-i)*8/\c=(Builtin.zeroCells z.cells (n-(i+(n-j)))).toList:=⟨_,by rw[ZA,size_zeroCells,o];congr 1;omega,rfl⟩
 have Z:∀v∈z.cells.toList,v.oneCell'=true:=by
  have h:(prog.info? 27).bind (·.zero)=some z:=by rw[f];exact I
  have hk:((prog.info? 27).bind (·.zero)).all (fun z=>z.cells.toList.all (·.oneCell'))=true:=by kernel_rfl
  rw[h]at hk;exact fun v hv=>ZH.1 (by simpa using hk) v hv
 have E:∀s p,(Builtin.clear_ #[25] s #[.slice (some ⟨g,(i+(n-j))*8,none⟩) (n-(i+(n-j))) p]).run prog (w.drew.setRow g b.toArray)=.ok (.tuple #[]) (w.drew.setRow g (A++C++c++R).toArray):=fun s p=>by
  have h:=zfu (P:=prog) (w.drew.setRow g b.toArray) 25 27 s z 8 g ((i+(n-j))*8) (n-(i+(n-j))) p b.toArray K a1 o Z (by omega) F (by rw[ZM,B];omega);have y:=del_list (α:=Value) (A:=A) (M:=M) (C:=C) (R:=R) (i:=i*8) (k:=(j-i)*8) (m:=(n-j)*8) c hA hM N r;simp only at y;rw[<-d]at y;rw[show (n-(i+(n-j)))*8=(j-i)*8 by congr 1;omega,<-J,show b.toArray.toList=b from rfl,ZS,y,zaw]at h;rw[ZS];exact h
 have a4:i<=cap:=by omega
 have a6:j<=cap:=by omega
 have a8:¬((i:Int)=(j:Int)):=by omega
 have z5x:prog.follows .mixedOrders=true:=by kernel_rfl
 have a3:∃L:List Value,L.length=(j-i)*8/\w.drew.setRow g (A++C++c++R).toArray=w.drew.setRow g (A++C++L++R).toArray:=⟨c,r,rfl⟩
 clear d B F J l a Y
 go_enter func267,ntmps267
 go_wp2
 go_region_law_o (refine zhs rfl _ _ 25 25 rfl (.slice (some ⟨g,0,none⟩) i cap) (.slice (some x) (n-j) (cap-j)) (by simp[Act.eval,Act.put]) (by simp[Act.eval,Act.put,Q]) (U _ _) ?_)
 go_wp2_with (at_builtin;refine za6 _ rfl _ _ rfl _ rfl (E _ _) ?_)
 all_goals (go_ret;exact⟨rfl,c,r,by simp only[Z9]⟩)
theorem zzn{w:World}{v:Value}{n i j:Nat}{xs:List Value}(s:i<j)(I:j<=n)(b:w.ownsRow 0 27 8 v n xs)(y:z7a xs) :
  Calls prog 267 #[v,.int .i64 i,.int .i64 j] w fun e C=>∃A,e=.returned A/\C.ownsRow 0 27 8 A (i+(n-j)) (xs.take (i*8)++xs.drop (j*8))/\w.grownBy C v.ownBlock/\blockOf A=blockOf v:=by
 have d:=b.1;rcases b.2 with ⟨rfl,rfl⟩|⟨g,cap,a,rfl,_,B,t,f,q,c⟩
 ·omega
 ·have m:(xs.take (i*8)).length=i*8:=by rw[Zh,d];omega
  have H:((xs.drop (i*8)).take ((j-i)*8)).length=(j-i)*8:=by rw[Zh,Zr,d];omega
  have o:(xs.drop (j*8)).length=(n-j)*8:=by rw[Zr,d];omega
  have p:a.toList.length=cap*8:=by rw[ZA];exact q
  have l:a.toList=xs.take (i*8)++(xs.drop (i*8)).take ((j-i)*8)++xs.drop (j*8)++a.toList.drop (n*8):=by
   have F:(xs.drop (i*8)).take ((j-i)*8)++xs.drop (j*8)=xs.drop (i*8):=by
    have G:xs.drop (j*8)=(xs.drop (i*8)).drop ((j-i)*8):=by rw[Yr];congr 1;omega
    rw[G,Ze]
   rw[Z9 (xs.take (i*8)),F,Ze,<-c,Ze]
  refine(del_row (w:=w) (g:=g) (n:=n) (cap:=cap) s I t (by simp only[maxLen]at f;omega) B l m H o (fun u K=>y u (Yc K))).mono ?_;rintro e M ⟨rfl,E,z,rfl⟩;refine⟨_,rfl,⟨?_,.inr ⟨g,cap,(xs.take (i*8)++xs.drop (j*8)++E++a.toList.drop (n*8)).toArray,rfl,Yz _,?_,by omega,f,?_,?_⟩⟩,⟨rfl,rfl,rfl,by simp[World.setRow],fun k L x=>?_⟩,rfl⟩
  ·rw[Z4,m,o];omega
  ·have r:w.drew.heap[g]?=some (.cells a 27 (0,0)):=B;simp[World.setRow,Zs,r]
  ·rw[ZM,Z4,Z4,Z4,m,o,z,Zr,p];omega
  ·have J:(xs.take (i*8)++xs.drop (j*8)).length=(i+(n-j))*8:=by rw[Z4,m,o];omega
   show List.take _ (xs.take (i*8)++xs.drop (j*8)++E++a.toList.drop (n*8))=_;rw[Z9 (xs.take (i*8)++xs.drop (j*8))];exact Yo J
  ·simp only[World.setRow,Zs];rw[if_neg (fun h=>x (by rw[Value.ownBlock,h]))]
   rfl
end
section
open Abs Facts Go.Lib Go.RowKit
theorem zsb{P:Program}{s:RS}{w:World}(h:RH P s w){nn:Bool}{sz:Nat}{els:List D}{v:Value}{a:Addr}{m c:Nat}(j:rel s (.rsl nn sz els) v)(u:v=.slice (some a) m c)(d:0<els.length)(t:0<sz):¬owned s a.block:=by
 simp only[rel]at j;rcases j with ⟨_,rfl,_⟩|⟨y,cap,f,rfl,_,_,e,b⟩
 ·simp at d
 ·cases u;have A:=z0j e;have l:f[0]?=some f[0]:=ZD (by omega);obtain⟨z,n⟩:=b 0 _ l;have r:0<(f[0]).cells.toList.length:=by rw[ZA];omega
  have o:=ZD r;have p:=n 0 _ o;have g:=(h.mem _ _ p).2;have q:((a.add (0*sz)).add 0).block=a.block:=by
   have i:∀(x:Addr) (k:Nat),(x.add k).block=x.block:=fun x k=>by unfold Addr.add;split<;>rfl
   rw[i,i]
  rw[q]at g;exact g
set_option maxHeartbeats 2000000 in
theorem ac_Insert{H:HM}{nx id n i:Nat}{nn:Bool}{cs us els:List D}(d:H id=some (.row 27 n cs))(hi:i<=n)(U:0<els.length)(K:z21 8 els=some us)(F:n+els.length<=1000000000) :
  AC prog 201 [.osl id n,.int .i64 i,.rsl nn 8 els] H nx fun r Y O=>r=.osl id (n+els.length)/\Y=z0m H id (some (.row 27 (n+els.length) (cs.take (i*8)++us++cs.drop (i*8))))/\O=nx:=by
 refine⟨⟨_,func201,by kernel_rfl,by kernel_rfl⟩,fun s w vs h1 h2 h Q=>?_⟩;subst h1;subst h2;simp only[relAll]at Q;obtain⟨v,r1,rfl,B,v2,r2,rfl,x,v3,r3,rfl,z,rfl⟩:=Q;simp only[rel]at B x;subst x;obtain⟨f,_,j⟩:=B;have B:=(j _ _ _ d).2 rfl;subst B;obtain⟨C,A,t,o,_,_⟩:=z3w h d;rw[z35]at A;have u:=z54 h (e:=27) (n:=8) (m:=els.length) (news:=us) (by omega) (y:=.rsl nn 8 els) z35 (by simp only[z7b,if_true,K,YJ]) z;rcases u with ⟨_,h0,_⟩|⟨a,c,X,rfl,J,q,N,M⟩
 ·omega
 ·have E:=zsb h z rfl U (by omega);have I:z2l prog 27<=1000:=by
   have:decide (z2l prog 27<=1000)=true:=by kernel_rfl
   exact of_decide_eq_true this
  have l:(s.κ id).ownBlock≠some a.block:=by
   rw[z55 A];exact fun h5=>E ⟨id,f,by rw[d];simp,h5⟩
  refine(zxi (w:=w) (v:=s.κ id) (n:=n) (i:=i) (m:=els.length) (vc:=c) (va:=a) (xs:=C) (vs:=X) hi U A o
   (by have:=Nat.mul_le_mul F I;omega) (by unfold maxLen;omega) l N M q).mono ?_
  rintro e W ⟨P,rfl,g,p,G⟩
  obtain⟨g1,g2⟩:=z90 (w':=W) h id (.row 27 n cs) (.row 27 (n+els.length) (cs.take (i*8)++us++cs.drop (i*8))) P d p.os p.tape p.output p.size
   (fun k hk l=>p.block k hk (by rw[z55 A];exact l))
   (.inr ⟨n+els.length,_,rfl,Nat.le_add_right _ _,fun a1=>by omega⟩)
   (fun b F=>G b F)
   (fun hl=>⟨C.take (i*8)++X++C.drop (i*8),by rw[z35];exact g,relAll.later hl _ _ (z17 (z17 (z4k _ t) J) (z6b _ t)),z32 (z32 (z91 o _) q) (za8 o _)⟩)
  refine⟨P,.osl id (n+els.length),s.set id P (.row 27 (n+els.length) (cs.take (i*8)++us++cs.drop (i*8))),rfl,⟨rfl,rfl,rfl⟩,g1,g2,?_⟩;simp only[rel];obtain⟨Z,c2,L⟩:=z7f g;refine⟨f,⟨Z,c2,L⟩,fun e2 k2 a0 R=>?_⟩;simp only[RS.set,z0m,if_true,Y8,HObj.row.injEq]at R;obtain⟨_,rfl,_⟩:=R;exact⟨ZV _,fun _=>by simp[RS.set]⟩
def mvS(s:RS)(id:Nat)(v:Value)(o:HObj):RS:={ s with κ:=fun j=>if j=s.nx then v else s.κ j,H:=z0m (z0m s.H id none) s.nx (some o),nx:=s.nx+1 }
theorem zx4{P:Program}{s:RS}{w w':World}(h:RH P s w)(id:Nat){e:TypeId}{n:Nat}{cs:List D}(o':HObj)(v:Value)(m:s.H id=some (.row e n cs))
  (W:w'.os=w.os) (ht:w'.tape=w.tape) (M:w'.output=w.output) (X:w.heap.size<=w'.heap.size)
  (z:∀k,k<w.heap.size->some k≠blockOf (s.κ id)->w'.heap[k]?=w.heap[k]?)
  (Z:∀b,blockOf v=some b->blockOf (s.κ id)=some b \/ w.heap.size<=b) (F:Later s (mvS s id v o')->objOK P (mvS s id v o') w' v o') :
  Step s w (mvS s id v o') w'/\RH P (mvS s id v o') w':=by
 have x:=(h.obj id _ m).1;have c:∀j,j≠s.nx->j≠id->(mvS s id v o').H j=s.H j/\(mvS s id v o').κ j=s.κ j:=fun j h1 l=>by
  simp only[mvS,z0m,if_neg h1,if_neg l,and_self]
 have q:(mvS s id v o').H s.nx=some o'/\(mvS s id v o').κ s.nx=v:=by simp only[mvS,z0m,if_true,and_self]
 have p:(mvS s id v o').H id=none:=by simp only[mvS,z0m,if_neg (show ¬id=s.nx by omega),if_true]
 have I:Later s (mvS s id v o'):=by
  refine⟨Nat.le_succ _,fun a u J=>J,fun j E=>?_⟩
  by_cases d:j=id
  ·subst d;rw[p,m];exact .inl rfl
  ·obtain⟨h1,l⟩:=c j (by omega) d;rw[h1,l];exact objLe.refl _ _
 have F:=F I;have A:∀k,owned (mvS s id v o') k->owned s k \/ w.heap.size<=k:=by
  rintro k ⟨j,E,O,G⟩
  by_cases f:j=s.nx
  ·subst f;rw[q.2]at G;rcases Z k G with h1|h1
   ·exact .inl ⟨id,x,by rw[m];simp,h1⟩
   ·exact .inr h1
  ·by_cases d:j=id
   ·subst d;exact absurd p O
   ·obtain⟨h1,l⟩:=c j f d;rw[h1]at O;rw[l]at G;exact .inl ⟨j,h.fresh O,O,G⟩
 refine⟨⟨W,ht,M,X,I.nx,I.mem,fun a u J=>.inl J,I.objs,fun k G U=>z k G (fun e=>U ⟨id,x,by rw[m];simp,e.symm⟩),A⟩,?_,?_,?_,fun g=>rel.later I _ _ (h.glob g)⟩
 ·intro a u J;have L:=h.mem_lt J;obtain⟨h1,l⟩:=h.mem a u J;have R:some a.block≠blockOf (s.κ id):=fun e=>l ⟨id,x,by rw[m];simp,e.symm⟩;refine⟨by rw[z6f (z _ L R)];exact h1,fun U=>?_⟩;rcases A _ U with h3|h3
  ·exact l h3
  ·omega
 ·intro j Y o
  by_cases f:j=s.nx
  ·subst f;rw[q.1]at o;cases o;rw[q.2];exact⟨YF _,F⟩
  ·by_cases d:j=id
   ·subst d;rw[p]at o;cases o
   ·obtain⟨g1,g2⟩:=c j f d;rw[g1]at o;rw[g2];obtain⟨h1,l⟩:=h.obj j Y o;refine⟨Nat.lt_succ_of_lt h1,l.mono I fun b B=>z b (l.lt B) fun e=>?_⟩;exact h.apart j id (by rw[o];simp) (by rw[m];simp) d (by rw[B];simp) (by rw[B,e])
 ·have N:∀j,j≠s.nx->j≠id->s.H j≠none->blockOf v≠none->blockOf v≠blockOf (s.κ j):=fun j h1 l h3 h4 e=>by
   cases t:blockOf v with
   |none=>exact h4 t
   |some b =>
    cases hs:s.H j with
    |none=>exact h3 hs
    |some Y =>
     have L:=(h.obj j Y hs).2.lt (b:=b) (by rw[<-e,t]);rcases Z b t with h5|h5
     ·exact h.apart j id h3 (by rw[m];simp) l (by rw[<-e,t];simp) (by rw[<-e,t,h5])
     ·omega
  intro i j Q E K r;have C:i≠id:=fun e=>Q (by rw[e];exact p);have y:j≠id:=fun e=>E (by rw[e];exact p)
  by_cases h1:i=s.nx
  ·subst h1;have f:j≠s.nx:=fun e=>K e.symm;rw[q.2]at r⊢;rw[(c j f y).1]at E;rw[(c j f y).2];exact N j f y E r
  ·rw[(c i h1 C).1]at Q;rw[(c i h1 C).2]at r⊢
   by_cases l:j=s.nx
   ·subst l;rw[q.2];exact fun e=>N i h1 C Q (by rw[<-e];exact r) e.symm
   ·rw[(c j l y).1]at E;rw[(c j l y).2];exact h.apart i j Q E K r
set_option maxHeartbeats 2000000 in
theorem ac_Delete{H:HM}{nx id n i j:Nat}{cs:List D}(c:H id=some (.row 27 n cs))(u:i<j)(R:j<=n) :
  AC prog 267 [.osl id n,.int .i64 i,.int .i64 j] H nx fun r I A=>r=.osl nx (i+(n-j))/\I=z0m (z0m H id none) nx (some (.row 27 (i+(n-j)) (cs.take (i*8)++cs.drop (j*8))))/\A=nx+1:=by
 refine⟨⟨_,func267,by kernel_rfl,by kernel_rfl⟩,fun s w vs O P h C=>?_⟩;subst O;subst P;simp only[relAll]at C;obtain⟨v,Z,rfl,p,v2,r2,rfl,m,v3,r3,rfl,o,rfl⟩:=C;simp only[rel]at p m o;subst m;subst o;obtain⟨F,_,d⟩:=p;have p:=(d _ _ _ c).2 rfl;subst p;obtain⟨q,y,l,f,_,_⟩:=z3w h c;rw[z35]at y;refine(zzn (w:=w) (v:=s.κ id) (n:=n) (i:=i) (j:=j) (xs:=q) u R y f).mono ?_;rintro e G ⟨B,rfl,a,g,t⟩
 obtain⟨M,N⟩:=zx4 (w':=G) h id (.row 27 (i+(n-j)) (cs.take (i*8)++cs.drop (j*8))) B c g.os g.tape g.output g.size
  (fun k U x=>g.block k U (by rw[z55 y];exact x))
  (fun b Q=>.inl (by rw[<-t];exact Q))
  (fun W=>⟨q.take (i*8)++q.drop (j*8),by rw[z35];exact a,relAll.later W _ _ (z17 (z4k _ l) (z6b _ l)),z32 (z91 f _) (za8 f _)⟩)
 refine⟨B,.osl s.nx (i+(n-j)),mvS s id B (.row 27 (i+(n-j)) (cs.take (i*8)++cs.drop (j*8))),rfl,⟨rfl,rfl,rfl⟩,M,N,?_⟩;simp only[rel];obtain⟨J,K,z⟩:=z7f a;refine⟨YF _,⟨J,K,z⟩,fun X Y L E=>?_⟩;simp only[mvS,z0m,if_true,Y8,HObj.row.injEq]at E;obtain⟨_,rfl,_⟩:=E;exact⟨ZV _,fun _=>by simp[mvS]⟩
end
section
open Abs Facts Tr
attribute [local irreducible] awp
theorem ac_CloneU(l:List T)(p:l.length<=1000000)(H:HM)(nx:Nat):AC prog 263 [z0l l] H nx fun r h g=>r=.osl nx l.length/\h=z0m H nx (some (zr3 l))/\g=nx+1:=by
 refine AC.split (pre:=[]) (post:=[]) (sz:=8) (els:=l.map z0o) (fun k=>?_) ?_
 ·have e:l=[]:=by simpa using k
  subst e;have n:PC prog 263 [.nil] .nil:=by
   refine z14 2 rfl rfl (zqzj [] func263 rfl (by decide+kernel) rfl ?_)
   repeat'(first|refine nxt ?_|((refine zqh fun K a=>?_);simp(disch:=omega)only[go_sem,Z0,↓reduceIte])|(refine zqd _ rfl ?_ ?_<;>intro c<;>(first|(cases c;done)|((try omega))))|refine zqU ?_|(refine a _ ?_;clear a K))
   exact z06 rfl (XY _)
  exact zq4 27 (n.ac ⟨rfl,rfl,rfl,rfl⟩)
 ·have b:OC prog 263 [.rsl true 8 (l.map z0o)] [zr3 l] (.osl 0 l.length):=by
   refine zi6 (by simp only[pureD.pureL,pureD,z0x (f:=z0o) z02 l,Z3]) rfl (fun o b=>by simp at b;subst b;exact z1z z04 _) (zqzj [5] func263 rfl (by decide+kernel) rfl ?_)
   repeat'(first|refine nxt ?_|((refine zqh fun K a=>?_);simp(disch:=omega)only[go_sem,Z0,↓reduceIte,reduceCtorEq,Z2,Zo,z4e])|(refine zqd _ rfl ?_ ?_<;>intro c<;>(first|(cases c;done)|((try omega))))|refine zqU ?_|(refine a _ ?_;clear a K))
   refine⟨fun _=>0,fun i j m d _=>by simp at m d;omega,?_,fun j d=>?_⟩
   ·(simp(disch:=omega)only[go_sem,Z0,renD])
   ·obtain rfl:j=0:=by simp at d;omega
    (simp(disch:=omega)only[go_sem,zr3])
    try rfl
  exact b.ac ⟨by simp[renD],rfl,rfl⟩
theorem zfk(l:List T)(c:l.length<=1000000):OC prog 263 [z0l l] [zr3 l] (.osl 0 l.length) :=
 ⟨by simp only[pureD.pureL,z1g,Z3],rfl,fun o a=>by simp at a;subst a;exact z1z z04 _,fun H d=>(ac_CloneU l c H d).mono fun r f e ⟨b,h2,h3⟩=>⟨by rw[b];rfl,h2,h3⟩⟩
theorem same_load(l:List T){i:Nat}(h:i<l.length):((l.flatMap z08).drop (i*8)).take 8=z08 l[i]:=zji z0h h
theorem zzo(l:List T){i:Nat}(h:i<l.length):z1d (l.flatMap z08) (i*8) (z08 l[i])=l.flatMap z08:=by
 rw[zbu z0h h,List.set_getElem_self]
theorem zs9(l:List T):(l.flatMap z08).length=l.length*8:=z6l z0h l
theorem zgs:∀t:T,szB t=true->PC prog 177 [z0o t] (z0o t):=by
 refine z4a fun t I G=>?_;obtain⟨O,B,M,C,N,E,F⟩:=(z1k t).1 G;have y:=zf5 t.head B;have z:=zf5 t.words C;have A:=zfk t.kids E;refine z14 4 (by simp only[pureD.pureL,z02,Z3]) (z02 _) (zqzj [8000000,3000006,4000007,3000009,4000010,3000012,4000013,3000026,3000028,5000029] func177 rfl (by decide+kernel) rfl ?_);rw[show Tryz.f177.results.toList=[.cell 2 27] from rfl];rw[z0o,z0n]
 repeat'(first|refine nxt ?_|((first|refine zqh fun K b=>?_|refine zqe (by decide+kernel) fun K b=>?_|refine zev (y) rfl rfl rfl ?_|refine zev (z) rfl rfl rfl ?_|refine zev (A) rfl rfl rfl ?_);simp(disch:=omega)only[go_sem,Z0,Zk,↓reduceIte,reduceCtorEq,Z2,Z1,Zx,zjp,zr3,Zt,Zq])|(refine b _ ?_;clear b K))
 (refine zqL (fun x a=>∃(i:_),x=t.kids.length-i/\a.t 1=.ptr 0 0/\a.t 2=.ptr 1 0/\a.t 18=.osl 4 t.kids.length/\a.t 19=.int .i64 t.kids.length/\a.t 20=.int .i64 i/\a.H 0=some (.box 27 (zi9 t 2 3 4))/\a.H 1=some (.box 27 zeroC)/\a.H 2=some (.row 122 t.head.length (t.head.flatMap z1p))/\a.H 3=some (.row 122 t.words.length (t.words.flatMap z1p))/\a.H 4=some (.row 27 t.kids.length (t.kids.flatMap z08))/\(i<=t.kids.length)/\(5<=a.nx)) ?_ ?_);rintro x a ⟨i,rfl,v,w,j,c,d,e,g,m,n,h,J,L⟩;rotate_left
 ·(refine⟨_,0,rfl,?_⟩);simp(disch:=omega)only[go_sem,Z0,Z1,and_self,Yj,zi9,zeroC]
 by_cases o:i<t.kids.length
 ·have q:=I t.kids[i] (Zd o) (F _ (Zd o));have r:=same_load t.kids o;have u:=zzo t.kids o;have s:=zs9 t.kids
  repeat'(first|((first|refine zqh fun K b=>?_|refine zqr fun K b=>?_|refine zqq (by decide+kernel) fun K b=>?_|refine zqt (q) ?_);simp(disch:=omega)only[go_sem,Z0,Zk,↓reduceIte,reduceCtorEq,Z2,Z1,v,j,c,d,e,h,r,u,s,zi9])|(refine zqd _ rfl ?_ ?_<;>intro p<;>(((try simp only[z05]at p);try omega)))|refine nxt ?_|(refine b _ ?_;clear b K))
  (refine⟨_,?_,i+1,rfl,?_⟩);rotate_left;simp(disch:=omega)only[go_sem,Z0,Z1,v,w,j,c,d,e,g,m,n,h,true_and,ZX,Yb];rotate_left
  all_goals omega
 ·repeat'(first|((refine zqh fun K b=>?_);simp(disch:=omega)only[go_sem,Z0,↓reduceIte,Z2,Z1,v,w,c,d,e,g,zi9,zeroC,Zt,Zq])|(refine zqd _ rfl ?_ ?_<;>intro p<;>(((try simp only[z05]at p);try omega)))|refine nxt ?_|refine zqz ?_|refine zqu (by(simp(disch:=omega)only[go_sem,Z0,↓reduceIte,Z2,Z1,w,g,zeroC]);rfl) rfl ?_|(refine b _ ?_;clear b K))
  refine z3j (z6j (k:=3) ?_ ?_)
  ·simp[pureD.pureL,pureD]
  refine z00 (z0e 2 rfl) (z00 (z0e 2 rfl) (z00 (z0e 2 rfl) (z00 (z0e 2 rfl) (z00 (z0e 2 rfl) (z00 ?_ (z00 ?_ (z00 ?_ z0i)))))))
  ·refine z1j (f:=z1p) (l:=t.head) 1 rfl ?_ z64 z7d (fun _=>rfl) (fun _=>rfl);simp(disch:=omega)only[go_sem,Z0,m]
  ·refine z1j (f:=z1p) (l:=t.words) 1 rfl ?_ z64 z7d (fun _=>rfl) (fun _=>rfl);simp(disch:=omega)only[go_sem,Z0,n]
  ·refine z1j (f:=z08) (l:=t.kids) 1 rfl ?_ z0p z35 z0h z04;simp(disch:=omega)only[go_sem,Z0,h]
namespace Abs
theorem zia{P:Program}{own:List Nat}{n:FuncId}{args cap:List D}{g:List Oper->(St->Prop)->St->Prop}{b:List Oper}{K:St->Prop}{st:St}{a:Option Nat}{r:D}{H:HM}{nx:Nat}
  (h:AC P n (args++cap) st.H st.nx fun m d c=>m=r/\d=H/\c=nx) (e:z0s 5000000 own a=false) (j:z0s 4000000 own a=true) (k:zb7 st H nx) (i:g b K ((st.withH H nx).put a r)) (l:tcM own a=none:=by rfl) (f:z0s 10000000 own a=false:=by rfl):zrx P own (.fn n cap) args g b K st a :=
 .inr (.inr ⟨e,j,r,H,nx,h,.inl ⟨l,.inl ⟨f,k⟩⟩,i⟩)
theorem z2a{P:Program}{own:List Nat}{c:Code}{Q:Exit->St->Prop}{st:St}(I:St->Prop)(a:I st)(h:∀st,I st->awp P own c Q st):awp P own c Q st:=h st a
theorem zwk{P:Program}{st:St}{b j:Nat}{e:TypeId}{cs:List D}{d:D}(G:st.H b=some (.box e cs))(hd:cs=[d] \/ d=.agg cs)(K:pureD d=true)(J:st.t j=.ptr b 0) :
  SealTo P st ((st.withH (z0m st.H b none) st.nx).put (some j) (.rptr d)):=by
 intro N s a w f;have g:s.H b=some (.box e cs):=by rw[f.H];exact G
 obtain⟨k,y,A,_,p,z,I⟩:=zfy f.heap g;obtain⟨o,E⟩:=zdq f.heap (id:=b) (by rw[g];simp);refine⟨s.shut1 w b,⟨?_,f.nx,f.size,f.defers,fun i=>?_,E⟩,o⟩
 ·show z0m s.H b none=_;rw[f.H];rfl
 ·by_cases n:i=j
  ·subst n;have x:=f.tmps i;rw[J]at x;simp only[rel]at x;obtain⟨_,_,F⟩:=x;obtain⟨L,h,C⟩:=F _ _ g;rw[A]at h;simp only[Value.pointer.injEq,Y8,Addr.mk.injEq,and_true]at h;subst h;show rel _ (updT st.t i (.rptr d) i) _;rw[show updT st.t i (.rptr d) i=.rptr d from if_pos rfl];simp only[rel];have B:∀(q:Nat) c,y[q]?=some c->(s.shut1 w b).m ⟨k,q,none⟩=some c:=fun q c l=>by
    unfold RS.shut1;simp only;rw[if_pos (by rw[A];rfl)];exact I q c l
   rcases hd with hd|hd
   ·subst hd;simp only[relAll]at p;obtain⟨v,r,rfl,u,rfl⟩:=p;refine⟨_,v,C,rel.later o.later _ _ u,fun q c l=>?_⟩;rw[z2v (z v (by simp))]at l;rw[z1i,Yh];exact B q c (by simpa using l)
   ·subst hd;refine⟨_,.agg y.toArray,C,?_,fun q c l=>?_⟩
    ·simp only[rel];exact⟨y,rfl,relAll.later o.later _ _ p,z⟩
    ·rw[z1i,Yh];exact B q c (by simpa [Value.cells] using l)
  ·show rel _ (updT st.t j (.rptr d) i) _;rw[show updT st.t j (.rptr d) i=st.t i from if_neg n];exact rel.later o.later _ _ (f.tmps i)
theorem zys{st:St}{id:Nat}{o o':HObj}(f:st.H id=some o)(i:id<st.nx)(g:∀e c,o ≠ .box e c)(d:∀e c,o' ≠ .box e c):zb7 st (z0m (z0m st.H id none) st.nx (some o')) (st.nx+1):=by
 have h:=zmf st (zfb st d) (id0:=id) (o:=o) (by unfold z0m;rw[if_neg (by omega)];exact f) g;have e:z0m (z0m st.H st.nx (some o')) id none=z0m (z0m st.H id none) st.nx (some o'):=by
  funext j
  unfold z0m
  by_cases a:j=id
  ·rw[if_pos a,if_neg (by omega),if_pos a]
  ·rw[if_neg a]
   by_cases b:j=st.nx
   ·rw[if_pos b,if_pos b]
   ·rw[if_neg b,if_neg b,if_neg a]
 rw[e]at h;exact h
def zrc(t:T):List D:=[.int .i64 t.id.act,.int .i64 t.id.item,.int .i64 t.id.n,.int .i64 t.kind,.str t.label,z0f t.head,z0f t.words,z0l t.kids]
end Abs
theorem z9v{P:Program}{H:HM}(k:Nat){t:T}{d:D}(a:z3f P H (k+1) d=some (z0l t.kids))(b:pureD d=false) :
  z3f P H (k+2) (.agg [.int .i64 t.id.act,.int .i64 t.id.item,.int .i64 t.id.n,.int .i64 t.kind,.str t.label,z0f t.head,z0f t.words,d])=some (z0o t):=by
 rw[z0o,z0n];refine z6j (k+1) ?_ (z00 (z0e k rfl) (z00 (z0e k rfl) (z00 (z0e k rfl) (z00 (z0e k rfl) (z00 (z0e k rfl) (z00 (z0e k (z0g _)) (z00 (z0e k (z0g _)) (z00 a z0i))))))));simp only[pureD.pureL,b,Y2,Y3]
theorem pc_at(id:Idv)(f:T->T){g:FuncId}{cap:List D}(a:pureD.pureL cap=true):∀t:T,szB t=true->(∀x∈z0c t,x.id=id->PC prog g (z0o x::cap) (z0o (f x))) ->
  PC prog 261 [z0o t,z0z id,.fn g cap] (.tup [z0o (atR id f t).1,.bool (atR id f t).2]):=by
 refine z4a fun t Q O G=>?_;obtain⟨Y,Z,W,h2,X,M,N⟩:=(z1k t).1 O;have L:=zfk t.kids M;refine z14 5 (by simp only[pureD.pureL,z02,pureD,a,Z3];rfl) (by simp only[pureD,pureD.pureL,z02,Z3]) (zqzj [] func261 rfl (by decide+kernel) rfl ?_);rw[show Tryz.f261.results.toList=[.cell 6 27,.tmp 7] from rfl];rw[show z0o t=.agg _ from by rw[z0o,z0n]]
 by_cases c:t.id=id
 ·have w:=G t (z1t t) c;rw[show z0o t=.agg _ from by rw[z0o,z0n]]at w;rw[zvu c];have k:decide (t.id=id)=true:=decide_eq_true c
  repeat'(first|refine nxt ?_|((first|refine zqh fun K b=>?_|refine zqs (w) ?_);simp(disch:=omega)only[go_sem,Z0,↓reduceIte,reduceCtorEq,Z2,Z1,k])|(refine zqd _ rfl ?_ ?_<;>intro a<;>(first|(cases a;done)|((try omega))))|refine zqu (by(simp(disch:=omega)only[go_sem,Z0,↓reduceIte,Z1]);rfl) rfl ?_|(refine b _ ?_;clear b K))
  exact z06 (by simp only[pureD,pureD.pureL,z04,Z3]) (XY _)
 ·have k:decide (t.id=id)=false:=decide_eq_false c
  repeat'(first|refine nxt ?_|((refine zqh fun K b=>?_);simp(disch:=omega)only[go_sem,Z0,↓reduceIte,reduceCtorEq,Z2,Z1,k])|(refine zqd _ rfl ?_ ?_<;>intro a<;>(first|(cases a;done)|((try omega))))|(refine b _ ?_;clear b K))
  (refine zqL (fun J d=>∃(i:_),J=t.kids.length-i/\d.t 2=.fn g cap/\d.t 3=.ptr 0 0/\d.t 4=.ptr 1 0/\d.t 6=.ptr 2 0/\d.t 20=z0l t.kids/\d.t 21=.int .i64 t.kids.length/\d.t 22=.int .i64 i/\d.H 0=some (.box 27 (zrc t))/\d.H 1=some (.box 23 (z0a id))/\d.H 2=some (.box 27 [.int .i64 0,.int .i64 0,.int .i64 0,.int .i64 0,.str ZK,.nil,.nil,.nil])/\(i<=t.kids.length)/\(3<=d.nx)/\(∀j,(I:j<i)->(h:j<t.kids.length)->(atR id f t.kids[j]).2=false)) ?_ ?_);rintro J d ⟨i,rfl,C,E,F,z,q,o,p,r,s,m,R,U,u⟩;rotate_left
  ·(refine⟨_,0,rfl,?_⟩);simp(disch:=omega)only[go_sem,Z0,Z1,true_and,Yj,zrc,z0a,z0l];intro j I;omega
  by_cases y:i<t.kids.length
  ·have n:=Q t.kids[i] (Zd y) (N _ (Zd y)) (fun x P=>G x (z31 (Zd y) P));have B:z1d (t.kids.flatMap z08) (i*8) (z08 (atR id f t.kids[i]).1)=(t.kids.set i (atR id f t.kids[i]).1).flatMap z08:=zbu z0h y;have A:=zs9 t.kids
   by_cases v:(atR id f t.kids[i]).2=true
   ·rw[v]at n
    repeat'(first|((first|refine zqh fun K b=>?_|refine zqs (n) ?_|refine zcx (L) ?_);simp(disch:=omega)only[go_sem,Z0,YD,↓reduceIte,reduceCtorEq,Z2,Z1,Zx,C,E,F,z,q,o,p,r,s,m,zrc,z0l,z0a,zr3,B,A,Zt,Zq])|((first|refine zqd _ rfl (fun a=>?_) (fun a=>?_)|refine zqm _ rfl (fun a=>?_) (fun a=>?_))<;>(first|(cases a;done)|((try simp only[z05]at a);try omega)))|refine nxt ?_|refine zqu (by(simp(disch:=omega)only[go_sem,Z0,YD,↓reduceIte,Z2,Z1,z,m]);rfl) rfl ?_|(refine b _ ?_;clear b K))
    rw[atR_kid c y u v];refine z3j (zeu 4 (by simp only[pureD.pureL,pureD,Y2,Y3]) (z00 (z9v 2 (t:=t.setKids (t.kids.set i (atR id f t.kids[i]).1)) (z1j (f:=z08) (l:=t.kids.set i (atR id f t.kids[i]).1) 1 (by simp) ?_ z0p z35 z0h z04) rfl) (z00 (z0e 3 rfl) z0i)));simp(disch:=omega)only[go_sem]
   ·rw[ZI]at v;rw[v]at n
    repeat'(first|((first|refine zqh fun K b=>?_|refine zqr fun K b=>?_|refine zqs (n) ?_);simp(disch:=omega)only[go_sem,Z0,↓reduceIte,reduceCtorEq,Z2,Z1,C,F,q,o,p,s,z0l,z0a])|((first|refine zqd _ rfl (fun a=>?_) (fun a=>?_)|refine zqm _ rfl (fun a=>?_) (fun a=>?_))<;>(first|(cases a;done)|((try simp only[z05]at a);try omega)))|refine nxt ?_|(refine b _ ?_;clear b K))
    (refine⟨_,?_,i+1,rfl,?_⟩);rotate_left;simp(disch:=omega)only[go_sem,Z0,Z1,C,E,F,z,q,o,p,r,s,m,true_and,ZX,Yb,zrc,z0l,z0a];rotate_left
    ·omega
    ·refine⟨by omega,by omega,fun j I h=>?_⟩
     by_cases e:j=i
     ·subst e;exact v
     ·exact u j (by omega) h
  ·repeat'(first|((refine zqh fun K b=>?_);simp(disch:=omega)only[go_sem,Z0,↓reduceIte,Z2,Z1,E,z,o,p,r,m,zrc,z0l])|(refine zqd _ rfl ?_ ?_<;>intro a<;>(((try simp only[z05]at a);try omega)))|refine nxt ?_|refine zqz ?_|refine zqu (by(simp(disch:=omega)only[go_sem,Z0,↓reduceIte,Z2,Z1,z,m]);rfl) rfl ?_|(refine b _ ?_;clear b K))
   rw[zvv c fun j h=>u j (by omega) h,z0o,z0n];exact z06 (by simp only[pureD,pureD.pureL,z0g,zm0,Z3]) (XY _)
theorem zju(t:T)(c:szB t=true)(id:Idv)(f:T->T){g:FuncId}{cap:List D}(b:pureD.pureL cap=true)(h:∀x∈z0c t,x.id=id->PC prog g (z0o x::cap) (z0o (f x))) :
  PC prog 167 [z0o t,z0z id,.fn g cap] (z0o (atR id f t).1):=by
 have d:=zgs t c;have e:=pc_at id f b t c h;refine z14 1 (by simp only[pureD.pureL,z02,pureD,b,Z3];rfl) (z02 _) (zqzj [3000010,5000011,3000012,5000014] func167 rfl (by decide+kernel) rfl ?_);rw[show Tryz.f167.results.toList=[.cell 6 27] from rfl]
 repeat'(first|((first|refine zqh fun K a=>?_|refine zqe (by decide+kernel) fun K a=>?_|refine zqt (d) ?_|refine zqt (e) ?_);simp(disch:=omega)only[go_sem,Z0,Zk,↓reduceIte,Z2,Z1])|refine nxt ?_|refine zqu (by(simp(disch:=omega)only[go_sem,Z0,↓reduceIte,Z1]);rfl) rfl ?_|(refine a _ ?_;clear a K))
 exact z06 (z02 _) (XY _)
theorem ins_flat(l:List T)(i:Nat)(x:T):(l.flatMap z08).take (i*8)++z08 x++(l.flatMap z08).drop (i*8)=(l.take i++x::l.drop i).flatMap z08:=by
 have a:(l.flatMap z08).take (i*8)=(l.take i).flatMap z08:=by
  by_cases b:i<=l.length
  ·have e:l.flatMap z08=(l.take i).flatMap z08++(l.drop i).flatMap z08:=by rw[<-Z8,Ze]
   rw[e,Zp (by rw[z6l z0h,Zh];omega),Zc (by rw[z6l z0h,Zh];omega)]
  ·rw[Zc (by rw[z6l z0h];omega),Zc (by omega)]
 rw[a,zez z0h,Z8,Zf,Z9]
theorem del_flat(l:List T)(i:Nat):(l.flatMap z08).take (i*8)++(l.flatMap z08).drop ((i+1)*8)=(l.eraseIdx i).flatMap z08:=by
 have a:(l.flatMap z08).take (i*8)=(l.take i).flatMap z08:=by
  by_cases b:i<=l.length
  ·have e:l.flatMap z08=(l.take i).flatMap z08++(l.drop i).flatMap z08:=by rw[<-Z8,Ze]
   rw[e,Zp (by rw[z6l z0h,Zh];omega),Zc (by rw[z6l z0h,Zh];omega)]
  ·rw[Zc (by rw[z6l z0h];omega),Zc (by omega)]
 rw[a,zez z0h,<-Z8,List.eraseIdx_eq_take_drop_succ]
theorem pc_put1(i:Nat)(x:T)(k:szB x=true)(q:T)(j:szB q=true)(hi:i<=q.kids.length):PC prog 262 [z0o q,.rptr (.int .i64 i),.rptr (z0o x)] (z0o (z4u i x q)):=by
 obtain⟨r,s,m,u,p,g,v⟩:=(z1k q).1 j;have c:=zgs x k;have d:=zfk q.kids g;refine z14 5 (by simp only[pureD.pureL,z02,pureD,Z3]) (z02 _) (zqzj [3000006,4000007,3000008,3000009,5000010,4000012] func262 rfl (by decide+kernel) rfl ?_);rw[show Tryz.f262.results.toList=[.cell 4 27] from rfl];rw[show z0o q=.agg _ from by rw[z0o,z0n]]
 repeat'(first|((first|refine zqh fun K a=>?_|refine zqe (by decide+kernel) fun K a=>?_|refine zqt (c) ?_|refine zev (d) rfl rfl rfl ?_);simp(disch:=omega)only[go_sem,Z0,Zk,↓reduceIte,reduceCtorEq,Z2,Zo,Z1,zr3])|(refine a _ ?_;clear a K))
 refine zia (ac_Insert (n:=q.kids.length) (i:=i) (cs:=q.kids.flatMap z08) (us:=z08 x) ?_ hi (by simp) ?_ (by simp;omega)) rfl rfl (zc4 _ (o:=.row 27 q.kids.length (q.kids.flatMap z08)) ?_ (by intro e b h;cases h) (by intro e b h;cases h)) ?_
 ·(simp(disch:=omega)only[go_sem,Z0])
 ·simp only[z21,z5g,z0h,if_true,Yn]
 ·(simp(disch:=omega)only[go_sem,Z0])
 rw[ins_flat];(try(simp(disch:=omega)only[go_sem,Z0,Zk,↓reduceIte,reduceCtorEq,Z2,Z1,Zx,Zt,Zq]));repeat'(first|((refine zqh fun K a=>?_);simp(disch:=omega)only[go_sem,Z0,↓reduceIte,Z2,Z1,Zt,Zq])|refine nxt ?_|refine zqu (by(simp(disch:=omega)only[go_sem,Z0,↓reduceIte,Z2,Z1]);rfl) rfl ?_|(refine a _ ?_;clear a K))
 refine z3j (z9v 3 (t:=z4u i x q) (z1j (f:=z08) (l:=q.kids.take i++x::q.kids.drop i) 2 ?_ ?_ z0p z35 z0h z04) rfl)
 ·simp;omega
 ·(simp(disch:=omega)only[go_sem,Z0])
theorem zu4(i:Nat)(q:T)(n:szB q=true)(hi:i<q.kids.length):PC prog 266 [z0o q,.rptr (.int .i64 i)] (z0o (zop i q)):=by
 obtain⟨s,u,p,v,r,m,w⟩:=(z1k q).1 n;have k:=zfk q.kids m;have b:=fun(H:HM) (d:Nat) (c:H 2=some (.row 27 q.kids.length (q.kids.flatMap z08)))=>ac_Delete (nx:=d) (i:=i) (j:=i+1) c (by omega) (by omega);rw[del_flat]at b;simp only[ZX,Yb]at b;refine z14 5 (by simp only[pureD.pureL,z02,pureD,Z3]) (z02 _) (zqzj [3000005,4000006,3000007,3000008,4000010] func266 rfl (by decide+kernel) rfl ?_);rw[show Tryz.f266.results.toList=[.cell 3 27] from rfl];rw[show z0o q=.agg _ from by rw[z0o,z0n]]
 repeat'(first|((first|refine zqh fun K a=>?_|refine zqe (by decide+kernel) fun K a=>?_|refine zev (k) rfl rfl rfl ?_);simp(disch:=omega)only[go_sem,Z0,Zk,↓reduceIte,reduceCtorEq,Z2,zr3])|(refine a _ ?_;clear a K))
 refine zia (b _ _ ?_) rfl rfl (zys (o:=.row 27 q.kids.length (q.kids.flatMap z08)) ?_ ?_ (by intro e g h;cases h) (by intro e g h;cases h)) ?_
 ·(simp(disch:=omega)only[go_sem,Z0])
 ·(simp(disch:=omega)only[go_sem,Z0])
 ·(simp(disch:=omega)only[go_sem,Zx])
 (try(simp(disch:=omega)only[go_sem,Z0,Zk,↓reduceIte,reduceCtorEq,Z2,Z1,Zx,Zt,Zq]));repeat'(first|((refine zqh fun K a=>?_);simp(disch:=omega)only[go_sem,Z0,↓reduceIte,Z2,Z1,Zt,Zq])|refine nxt ?_|refine zqu (by(simp(disch:=omega)only[go_sem,Z0,↓reduceIte,Z2,Z1]);rfl) rfl ?_|(refine a _ ?_;clear a K))
 refine z3j (z9v 3 (t:=zop i q) (z1j (f:=z08) (l:=q.kids.eraseIdx i) 2 ?_ ?_ z0p z35 z0h z04) rfl)
 ·rw[List.length_eraseIdx_of_lt hi];omega
 ·(simp(disch:=omega)only[go_sem,Z0])
theorem pc_put(i:Int)(x:T):PC prog 168 [.int .i64 i,z0o x] (.fn 262 [.rptr (.int .i64 i),.rptr (z0o x)]):=by
 refine z14 4 (by simp only[pureD.pureL,z02,pureD,Z3]) (by simp only[pureD.pureL,z02,pureD,Z3]) (zqzj [] func168 rfl (by decide+kernel) rfl ?_)
 repeat'(first|((refine zqh fun K a=>?_);simp(disch:=omega)only[go_sem,Z0,Z2])|refine nxt ?_|refine zqU ?_|(refine a _ ?_;clear a K))
 refine z3j (zi4 3 rfl (z00 (z2n (e:=3) 2 ?_ z7p (z0e 1 rfl)) (z00 (z0b (e:=27) 1 ?_ z0p (z04 x)) z0i)))
 ·(simp(disch:=omega)only[go_sem,Z0])
 ·(simp(disch:=omega)only[go_sem,Z0])
theorem zyt(t:T)(h:szB t=true)(m:depT t<=1000000000)(id:Idv)(i:Nat)(n:(z3c id t).2.1=i)(o:∀q∈z0c t,q.id=(z3c id t).1->i<q.kids.length):PC prog 176 [z0o t,z0z id] (z0o (atR (z3c id t).1 (zop i) t).1):=by
 have k:=z9t t (z7o t h) m id;have l:=zju t h (z3c id t).1 (zop i) (g:=266) (cap:=[.rptr (.int .i64 i)]) rfl (fun q c f=>zu4 i q (z6m t h q c) (o q c f));rw[n]at k;refine z14 1 (by simp only[pureD.pureL,z02];rfl) (z02 _) (zqzj [] func176 rfl (by decide+kernel) rfl ?_);rw[show Tryz.f176.results.toList=[.cell 4 27] from rfl]
 repeat'(first|((refine z09 (N:=1) rfl fun K a=>?_);simp(disch:=omega)only[go_sem,Z0,Z2])|(refine a _ ?_;clear a K))
 refine z33 fun K a=>?_;simp(disch:=omega)only[go_sem,Z0,↓reduceIte,Z2,Z1];refine zqs k ?_;simp(disch:=omega)only[go_sem,Z0,↓reduceIte,Z2,Z1,Zx];refine a _ _ (zwk (b:=4) (j:=6) (e:=3) (cs:=[.int .i64 i]) (d:=.int .i64 i) (by(simp(disch:=omega)only[go_sem,Z0])) (.inl rfl) rfl (by(simp(disch:=omega)only[go_sem,Z0]))) ?_;clear a K
 repeat'(first|((first|refine zqh fun K a=>?_|refine zqs (l) ?_);simp(disch:=omega)only[go_sem,Z0,↓reduceIte,Z2,Z1])|refine nxt ?_|refine zqu (by(simp(disch:=omega)only[go_sem,Z0,↓reduceIte,Z1]);rfl) rfl ?_|(refine a _ ?_;clear a K))
 exact z06 (z02 _) (XY _)
def zpa(t:T):List D:=[.int .i64 t.id.act,.int .i64 t.id.item,.int .i64 t.id.n,.int .i64 t.kind,.str t.label,z0f t.head,z0f t.words,z0l t.kids]

namespace Tr
def z4q(u:T)(a:Idv)(i:Int)(x:T):Int :=
 if standsT u=false \/ standsT x=false \/ x.kind=0 then 1 else
 if (z07 a u).2=false then 4 else
 if z1h (z07 a u).1.kind x.kind=false then 9 else
 if i<0 \/ ((z07 a u).1.kids.length:Int)<i then 3 else
 if z2u (z07 a u).1.kids x.kind x.label=true then 10 else
 if 64<=(z07 a u).1.kids.length \/ 8<(z3i a u).length+1+depT x \/ 1024<cntT u+cntT x then 6 else
 if ((idsT x).any fun i=>(z07 i u).2)=true then 5 else 0
theorem z4r{id:Idv}{u:T}(h:(z07 id u).2=true):(z07 id u).1∈z0c u:=by
 have a:=zcu.1 h;unfold z07;rw[zf4 _ a];exact zah id u _ (Zd _)
theorem z8s{id:Idv}{u q:T}(f:(idsT u).Nodup)(hq:q∈z0c u)(b:q.id=id):z07 id u=(q,true):=by
 have g:∀u:T,(idsT u).Nodup->q∈z0c u->z07 id u=(q,true):=by
  refine z4a fun u s f hq=>?_;rw[z1l,Z7]at hq;rcases hq with rfl|hq
  ·exact z30 b
  ·obtain⟨k,d,c⟩:=Z5.1 hq;obtain⟨i,l,rfl⟩:=Zz d;obtain⟨n,o,p⟩:=z77 f;have a:id∈idsT u.kids[i]:=Zl.2 ⟨q,c,b⟩;have r:=s _ d (o _ d) c;have m:z27 id u.kids[i] ≠ []:=z4s.2 a;rw[z5k (z5j (fun e=>n _ d (e ▸ a)) l (fun j t h=>(z6a id _).2 (p i j l h (by omega) id a)) m) m,r]
 exact g u f hq
def zdd(u:T)(id:Idv):Int:=if standsT u=false then 1 else if (z07 id u).2=false then 4 else if u.id=id then 9 else 0
theorem z9d{u x:T}{a:Idv}{i:Int}(h:z4q u a i x=0):(standsT u=true/\standsT x=true/\x.kind≠0/\(z07 a u).2=true/\z1h (z07 a u).1.kind x.kind=true/\z2u (z07 a u).1.kids x.kind x.label=false/\(z07 a u).1.kids.length<64/\(z3i a u).length+1+depT x<=8/\cntT u+cntT x<=1024/\((idsT x).any fun i=>(z07 i u).2)=false) /\
  a∈idsT u/\∃n:Nat,i=n/\∀q∈z0c u,q.id=a->n<=q.kids.length:=by
 unfold z4q at h;split at h
 ·cases h
 rename_i b;split at h
 ·cases h
 rename_i c;split at h
 ·cases h
 rename_i e;split at h
 ·cases h
 rename_i f;split at h
 ·cases h
 rename_i g;split at h
 ·cases h
 rename_i l;split at h
 ·cases h
 rename_i j;simp only[not_or,Zi,ZI]at b c e g j;refine⟨⟨b.1,b.2.1,b.2.2,c,e,g,by omega,by omega,by omega,j⟩,?_,i.toNat,by omega,fun q k d=>?_⟩
 ·rw[z1y,decide_eq_true_eq]at c;exact c
 ·rw[z8s ((z18 u).1 b.1).2.2.2.1 k d]at f;simp only at f;omega
end Tr
namespace Abs
theorem z3s{P:Program}{H:HM}{nn:Bool}{sz:Nat}{els a:List D}(k:Nat)(c:pureD.pureL els=false)(b:zgp (z3f P H k) els=some a):z3f P H (k+1) (.rsl nn sz els)=some (.rsl nn sz a):=by
 unfold z3f;simp only[pureD,c,Bool.false_eq_true,if_false,b,YJ]
abbrev Chk:=FuncId×List D×Int×Bool
def encK(c:Chk):D:=.agg [.fn c.1 c.2.1,.int .i64 c.2.2.1]
def z9o(l:List Chk):Int:=match l.find? (fun c=>c.2.2.2)with
 |some c=>c.2.2.1
 |none=>0
theorem zy2{l:List Chk}{i:Nat}(hi:i<l.length)(b:∀j,(a:j<i)->(h:j<l.length)->l[j].2.2.2=false)(d:l[i].2.2.2=true):z9o l=l[i].2.2.1:=by
 unfold z9o;have:l.find? (fun c=>c.2.2.2)=some l[i]:=List.find?_eq_some_iff_getElem.2 ⟨d,i,hi,rfl,fun j a=>by rw[b j a (by omega)];rfl⟩;rw[this]
theorem ztd{l:List Chk}(a:∀j,(h:j<l.length)->l[j].2.2.2=false):z9o l=0:=by
 unfold z9o;have:l.find? (fun c=>c.2.2.2)=none:=by
  rw[ZQ];intro c b;obtain⟨j,d,rfl⟩:=Zz b;rw[a j d];simp
 rw[this]
theorem z65(f:FuncId)(c:List D)(e:Int)(l:List Chk):z9o ((f,c,e,false)::l)=z9o l:=rfl
theorem z13{P:Program}{H:HM}{f:FuncId}{cap a:List D}{e:Int}(b:Bool)(k:Nat)(c:pureD.pureL cap=false)(d:zgp (z3f P H (k+1)) cap=some a):z3f P H (k+3) (.agg [.fn f cap,.int .i64 e])=some (encK (f,a,e,b)) :=
 z6j (k+2) (by simp only[pureD.pureL,pureD,c,Y3]) (z00 (zi4 (k+1) c d) (z00 (z0e (k+1) rfl) z0i))
end Abs
theorem zcs(l:List Chk)(u:l.length<=1000)(m:∀c∈l,pureD.pureL c.2.1=true/\PC prog c.1 c.2.1 (.bool c.2.2.2)):PC prog 145 [.rsl true 2 (l.map encK)] (.int .i64 (z9o l)):=by
 have f:∀c∈l,pureD (encK c)=true:=fun c a=>by simp only[encK,pureD,pureD.pureL,(m c a).1,Z3]
 refine z14 1 (by
  simp only[pureD.pureL,pureD,Bool.and_true];clear u
  induction l with
  |nil=>rfl
  |cons c l v =>
   simp only[Zg,pureD.pureL,Zb]
   exact⟨f c (by simp),v (fun c a=>m c (Z6 _ a)) (fun c a=>f c (Z6 _ a))⟩) rfl (zqzj [] func145 rfl (by decide+kernel) rfl ?_)
 repeat'(first|refine nxt ?_|((refine zqh fun K b=>?_);simp(disch:=omega)only[go_sem,Z0])|(refine b _ ?_;clear b K))
 (refine zqL (fun r g=>∃(i:_),r=l.length-i/\g.t 5=.rsl true 2 (l.map encK)/\g.t 6=.int .i64 l.length/\g.t 7=.int .i64 i/\(i<=l.length)/\(∀j,(q:j<i)->(h:j<l.length)->l[j].2.2.2=false)) ?_ ?_);rintro r g ⟨i,rfl,s,n,o,w,d⟩;rotate_left
 ·(refine⟨_,0,rfl,?_⟩);simp(disch:=omega)only[go_sem,Z0,true_and,Yj];intro j q;omega
 by_cases p:i<l.length
 ·have k:=(m l[i] (Zd p)).2
  repeat'(first|((first|refine zqh fun K b=>?_|refine zqr fun K b=>?_|refine zqs (k) ?_);simp(disch:=omega)only[go_sem,Z0,↓reduceIte,reduceCtorEq,Z2,Z1,s,n,o,encK])|((first|refine zqd _ rfl (fun a=>?_) (fun a=>?_)|refine zqm _ rfl (fun a=>?_) (fun a=>?_))<;>(((try simp only[z05]at a);try omega)))|refine nxt ?_|refine zqU ?_|(refine b _ ?_;clear b K))
  ·rw[zy2 p d (by assumption)];exact z1o rfl
  ·(refine⟨_,?_,i+1,rfl,?_⟩);rotate_left;simp(disch:=omega)only[go_sem,Z0,s,n,o,true_and,ZX,Yb];rotate_left
   ·omega
   ·refine⟨by omega,fun j q h=>?_⟩
    by_cases e:j=i
    ·subst e;assumption
    ·exact d j (by omega) h
 ·repeat'(first|((refine zqh fun K b=>?_);simp(disch:=omega)only[go_sem,↓reduceIte,n,o])|(refine zqd _ rfl ?_ ?_<;>intro a<;>(((try simp only[z05]at a);try omega)))|refine nxt ?_|refine zqz ?_|refine zqU ?_|(refine b _ ?_;clear b K))
  rw[ztd fun j h=>d j (by omega) h];exact z1o rfl
theorem pc_fits3(b:Bool):PC prog 146 [.rptr (.bool b)] (.bool (!b)):=by
 refine z14 1 rfl rfl (zqzj [] func146 rfl (by decide+kernel) rfl ?_)
 repeat'(first|((refine zqh fun K a=>?_);simp(disch:=omega)only[go_sem,Z0,↓reduceIte,Z2])|refine nxt ?_|refine zqU ?_|(refine a _ ?_;clear a K))
 exact z01 rfl
theorem pc_fits4(p x:T):PC prog 147 [.rptr (z0o p),.rptr (z0o x)] (.bool (!z1h p.kind x.kind)):=by
 have b:=zas p.kind x.kind;refine z14 1 (by simp only[pureD.pureL,z02,pureD,Z3]) rfl (zqzj [] func147 rfl (by decide+kernel) rfl ?_)
 repeat'(first|((first|refine zqh fun K a=>?_|refine zqs (b) ?_);simp(disch:=omega)only[go_sem,Z0,↓reduceIte,reduceCtorEq,Z2])|refine nxt ?_|refine zqU ?_|(refine a _ ?_;clear a K))
 exact z01 rfl
theorem pc_fits5(p:T)(i:Int):PC prog 149 [.rptr (.int .i64 i),.rptr (z0o p)] (.bool (decide (i<0) ||decide ((p.kids.length:Int)<i))):=by
 refine z14 1 (by simp only[pureD.pureL,z02,pureD,Z3]) rfl (zqzj [] func149 rfl (by decide+kernel) rfl ?_)
 repeat'(first|((refine zqh fun K d=>?_);simp(disch:=omega)only[go_sem,Z0,↓reduceIte,Z2])|refine nxt ?_|refine zqU ?_|(refine d _ ?_;clear d K)|(refine zqf (fun c=>?_) (fun c=>?_)<;>(have a:=c;try simp only[z05]at a)<;>((first|have b:=eq_false a|have b:=eq_true a);simp(disch:=omega)only[go_sem,Z0,↓reduceIte,reduceCtorEq,Z2,b,z0l];clear c b;try omega)))
 all_goals exact z01 (by simp[a])
theorem pc_fits6(p x:T)(c:szB p=true):PC prog 150 [.rptr (z0o p),.rptr (z0o x)] (.bool (z2u p.kids x.kind x.label)):=by
 have b:=znr p.kids (z79 c).1 x.kind x.label;refine z14 1 (by simp only[pureD.pureL,z02,pureD,Z3]) rfl (zqzj [] func150 rfl (by decide+kernel) rfl ?_)
 repeat'(first|((first|refine zqh fun K a=>?_|refine zqs (b) ?_);simp(disch:=omega)only[go_sem,Z0,↓reduceIte,reduceCtorEq,Z2,z0l])|refine nxt ?_|refine zqU ?_|(refine a _ ?_;clear a K))
 exact z01 rfl
def fullB(u p:T)(a:Idv)(x:T):Bool:=decide (64<=p.kids.length \/ 8<(z3i a u).length+1+depT x \/ 1024<cntT u+cntT x)
theorem pc_fits2(u p x:T)(f:szB u=true)(g:szB x=true)(l:cntT u<=1000000)(m:cntT x<=1000000)(n:depT u<=1000000)(dx:depT x<=1000000)(a:Idv) :
  PC prog 141 [.rptr (z0o p),.rptr (z0o u),.rptr (z0z a),.rptr (z0o x)] (.bool (fullB u p a x)):=by
 have h:=zwe u (z7o u f) (by omega) a;have i:=znz x (zbx x g) (by omega);have j:=zo0 u (zbx u f) (by omega);have k:=zo0 x (zbx x g) (by omega);have o:=zeg a u;refine z14 1 (by simp only[pureD.pureL,z02,pureD,Z3];rfl) rfl (zqzj [8000000,3000006,3000010,3000011,5000012,3000014,5000015,3000020,5000021,3000022,5000023] func141 rfl (by decide+kernel) rfl ?_)
 repeat'(first|((first|refine zqh fun K d=>?_|refine zqe (by decide+kernel) fun K d=>?_|refine zqt (h) ?_|refine zqt (i) ?_|refine zqt (j) ?_|refine zqt (k) ?_);simp(disch:=omega)only[go_sem,Z0,Zk,↓reduceIte,reduceCtorEq,Z2,z0l])|refine nxt ?_|refine zqU ?_|(refine d _ ?_;clear d K)|(refine zqf (fun e=>?_) (fun e=>?_)<;>(have b:=e;try simp only[z05]at b)<;>((first|have c:=eq_false b|have c:=eq_true b);simp(disch:=omega)only[go_sem,Z0,Zk,↓reduceIte,Z2,c];clear e c;try omega)))
 ·exact z01 (decide_eq_decide.2 (by omega))
 ·exact z01 (decide_eq_true (by omega)).symm
 ·exact z01 (decide_eq_true (by omega)).symm
theorem pc_fits11(u:T)(c:szB u=true)(d:depT u<=1000000)(id:Idv):PC prog 139 [z0z id,.rptr (z0o u)] (.bool (z07 id u).2):=by
 have b:=zr4 u (z7o u c) (by omega) id;refine z14 1 (by simp only[pureD.pureL,z02,pureD,Z3];rfl) rfl (zqzj [] func139 rfl (by decide+kernel) rfl ?_)
 repeat'(first|((first|refine zqh fun K a=>?_|refine zqs (b) ?_);simp(disch:=omega)only[go_sem,Z0,↓reduceIte,Z2,Z1])|refine nxt ?_|refine zqU ?_|(refine a _ ?_;clear a K))
 exact z01 rfl
theorem pc_fits1(u x:T)(e:szB u=true)(f:szB x=true)(h:cntT x<=1000000)(d:depT u<=1000000):PC prog 137 [.rptr (z0o x),.rptr (z0o u)] (.bool ((idsT x).any fun i=>(z07 i u).2)):=by
 have b:=pc_IDs x (zbx x f) (by omega);have j:=z3q x;have c:=z7s false (idsT x) (by unfold maxLen;omega) (g:=139) (cap:=[.rptr (z0o u)]) (fun i=>(z07 i u).2) (by simp only[pureD.pureL,z02,pureD,Z3]) (fun i _=>pc_fits11 u e d i);refine z14 1 (by simp only[pureD.pureL,z02,pureD,Z3]) rfl (zqzj [] func137 rfl (by decide+kernel) rfl ?_)
 repeat'(first|((first|refine zqh fun K a=>?_|refine zqs (b) ?_|refine zqs (c) ?_);simp(disch:=omega)only[go_sem,Z0,↓reduceIte,Z2])|refine nxt ?_|refine zqU ?_|(refine a _ ?_;clear a K))
 exact z01 rfl
theorem zte(u p x:T)(d:Bool)(a:Idv)(i:Int)(v:standsT u=true)(w:standsT x=true)(t:x.kind≠0)(s:z07 a u=(p,d))(n o q r m l:FuncId)(g h j k f e:List D) :
  z9o [(n,g,4,!d),(o,h,9,!z1h p.kind x.kind),(q,j,3,decide (i<0) ||decide ((p.kids.length:Int)<i)),(r,k,10,z2u p.kids x.kind x.label),(m,f,6,fullB u p a x),(l,e,5,(idsT x).any fun i=>(z07 i u).2)]=z4q u a i x:=by
 unfold z4q;rw[if_neg (by rw[v,w];simp[t]),s];cases d
 ·rw[if_pos rfl];rfl
 rw[if_neg (by simp),ZU,z65];cases z:z1h p.kind x.kind
 ·rw[if_pos rfl];rfl
 rw[if_neg (by simp),ZU,z65]
 by_cases c:i<0 \/ (p.kids.length:Int)<i
 ·rw[if_pos c,show (decide (i<0) ||decide ((p.kids.length:Int)<i))=true from by simpa using c];rfl
 rw[if_neg c,show (decide (i<0) ||decide ((p.kids.length:Int)<i))=false from by simpa using c,z65];cases A:z2u p.kids x.kind x.label
 ·rw[if_neg (by simp),z65];unfold fullB
  by_cases b:64<=p.kids.length \/ 8<(z3i a u).length+1+depT x \/ 1024<cntT u+cntT x
  ·rw[if_pos b,decide_eq_true b];rfl
  ·rw[if_neg b,decide_eq_false b,z65];cases y:(idsT x).any fun i=>(z07 i u).2
   ·rw[if_neg (by simp)];rfl
   ·rw[if_pos rfl];rfl
 ·rw[if_pos rfl];rfl
theorem pc_fits(u x:T)(n:szB u=true)(t:szB x=true)(E:cntT u<=1000000)(w:cntT x<=1000000)(y:depT u<=1000000)(dx:depT x<=1000000)(a:Idv)(i:Int) :
  PC prog 72 [z0o u,z0z a,.int .i64 i,z0o x] (.int .i64 (z4q u a i x)):=by
 have l:=z9u u n (by omega) (by omega);have m:=z9u x t (by omega) (by omega);have C:=z8q u (z7o u n) (by omega) a;have F:=z9g a u n;generalize s:z07 a u=q at *;obtain⟨p,r⟩:=q
 have v:=zcs [(146,[.rptr (.bool r)],4,!r),(147,[.rptr (z0o p),.rptr (z0o x)],9,!z1h p.kind x.kind),(149,[.rptr (.int .i64 i),.rptr (z0o p)],3,decide (i<0) ||decide ((p.kids.length:Int)<i)),
   (150,[.rptr (z0o p),.rptr (z0o x)],10,z2u p.kids x.kind x.label),(141,[.rptr (z0o p),.rptr (z0o u),.rptr (z0z a),.rptr (z0o x)],6,fullB u p a x),(137,[.rptr (z0o x),.rptr (z0o u)],5,(idsT x).any fun i=>(z07 i u).2)]
  (by simp) (by
   intro c g;simp only[Z7,ZP,or_false]at g;rcases g with rfl|rfl|rfl|rfl|rfl|rfl
   ·exact⟨rfl,pc_fits3 r⟩
   ·exact⟨by simp only[pureD.pureL,z02,pureD,Z3],pc_fits4 p x⟩
   ·exact⟨by simp only[pureD.pureL,z02,pureD,Z3],pc_fits5 p i⟩
   ·exact⟨by simp only[pureD.pureL,z02,pureD,Z3],pc_fits6 p x F⟩
   ·exact⟨by simp only[pureD.pureL,z02,pureD,Z3];rfl,pc_fits2 u p x n t E w y dx a⟩
   ·exact⟨by simp only[pureD.pureL,z02,pureD,Z3],pc_fits1 u x n t w y⟩)
 refine z14 1 (by simp only[pureD.pureL,z02,pureD,Z3];rfl) rfl (zqzj [] func72 rfl (by decide+kernel) rfl ?_)
 by_cases o:standsT u=false \/ standsT x=false \/ x.kind=0
 ·rw[show z4q u a i x=1 from if_pos o];rcases o with h|h|h
  ·rw[h]at l
   repeat'(first|refine nxt ?_|((first|refine zqh fun K b=>?_|refine zqs (l) ?_);simp(disch:=omega)only[go_sem,Z0,↓reduceIte,Z2,Z1])|(refine zqd _ rfl ?_ ?_<;>intro g<;>(first|(cases g;done)|((try omega))))|refine zqU ?_|(refine b _ ?_;clear b K))
   exact z1o rfl
  ·rw[h]at m
   repeat'(first|refine nxt ?_|((first|refine zqh fun K b=>?_|refine zqs (l) ?_|refine zqs (m) ?_);simp(disch:=omega)only[go_sem,Z0,↓reduceIte,Z2,Z1])|(refine zqd _ rfl ?_ ?_<;>intro g<;>(first|(cases g;done)|((try omega))))|refine zqU ?_|(refine b _ ?_;clear b K)|(refine zqf (fun j=>?_) (fun j=>?_)<;>(have d:=j;try simp only[z05]at d)<;>((have f:(_:Bool)=_:=d);simp(disch:=omega)only[go_sem,Z0,↓reduceIte,Z2,Z1,f];clear j f;try omega)))
   all_goals exact z1o rfl
  ·have k:decide (x.kind=0)=true:=decide_eq_true h
   repeat'(first|refine nxt ?_|((first|refine zqh fun K b=>?_|refine zqs (l) ?_|refine zqs (m) ?_);simp(disch:=omega)only[go_sem,Z0,↓reduceIte,Z2,Z1])|(refine zqd _ rfl ?_ ?_<;>intro g<;>(first|(cases g;done)|((try omega))))|refine zqU ?_|(refine b _ ?_;clear b K)|(refine zqf (fun j=>?_) (fun j=>?_)<;>(have d:=j;try simp only[z05]at d)<;>((have f:(_:Bool)=_:=d);simp(disch:=omega)only[go_sem,Z0,↓reduceIte,reduceCtorEq,Z2,Z1,f,k];clear j f;try omega)))
   all_goals exact z1o rfl
 ·simp only[not_or,Zi]at o;obtain⟨z,A,B⟩:=o;rw[z]at l;rw[A]at m;rw[zte u p x r a i z A B s]at v;have k:decide (x.kind=0)=false:=decide_eq_false B
  repeat'(first|refine nxt ?_|((first|refine zqh fun K b=>?_|refine zqs (l) ?_|refine zqs (m) ?_|refine zqs (C) ?_);simp(disch:=omega)only[go_sem,Z0,↓reduceIte,reduceCtorEq,Z2,Zo,Z1,Zx,k])|(refine zqd _ rfl ?_ ?_<;>intro g<;>(first|(cases g;done)|((try omega))))|(refine b _ ?_;clear b K))
  refine z20 (PC.borrow v rfl 6 (z00 (z3s 5 rfl (z00 (z13 _ 2 rfl (z00 (z2n (e:=4) 2 ?_ zk4 (z0e 1 rfl)) z0i)) (z00 (z13 _ 2 rfl (z00 (z0b (e:=27) 1 ?_ z0p (z04 _)) (z00 (z0b (e:=27) 1 ?_ z0p (z04 _)) z0i))) (z00 (z13 _ 2 rfl (z00 (z2n (e:=3) 2 ?_ z7p (z0e 1 rfl)) (z00 (z0b (e:=27) 1 ?_ z0p (z04 _)) z0i))) (z00 (z13 _ 2 rfl (z00 (z0b (e:=27) 1 ?_ z0p (z04 _)) (z00 (z0b (e:=27) 1 ?_ z0p (z04 _)) z0i))) (z00 (z13 _ 2 rfl (z00 (z0b (e:=27) 1 ?_ z0p (z04 _)) (z00 (z0b (e:=27) 1 ?_ z0p (z04 _)) (z00 (z0b (e:=23) 1 ?_ z25 rfl) (z00 (z0b (e:=27) 1 ?_ z0p (z04 _)) z0i))))) (z00 (z13 _ 2 rfl (z00 (z0b (e:=27) 1 ?_ z0p (z04 _)) (z00 (z0b (e:=27) 1 ?_ z0p (z04 _)) z0i))) z0i))))))) z0i)) ?_
  all_goals try(focus ((simp(disch:=omega)only[go_sem,Z0,z0a]);done))
  (try(simp(disch:=omega)only[go_sem,Z0]));repeat'(first|refine nxt ?_|refine zqU ?_|(refine b _ ?_;clear b K))
  exact z1o rfl
theorem pc_Insert(u x:T)(f:szB u=true)(m:szB x=true)(p:cntT u<=1000000)(r:cntT x<=1000000)(s:depT u<=1000000)(dx:depT x<=1000000)(a:Idv)(i:Int) :
  PC prog 96 [z0o u,z0z a,.int .i64 i,z0o x] (.tup [z0o (if z4q u a i x≠0 then T.zero else z10 a (z4u i.toNat x) u),.int .i64 (z4q u a i x)]):=by
 have c:=pc_fits u x f m p r s dx a i;refine z14 3 (by simp only[pureD.pureL,z02,pureD,Z3];rfl) (by simp only[pureD.pureL,z02,pureD,Z3]) (zqzj [3000020,3000021,3000023,5000024,5000025] func96 rfl (by decide+kernel) rfl ?_);rw[show Tryz.f96.results.toList=[.cell 8 27,.tmp 9] from rfl]
 by_cases j:z4q u a i x=0
 ·obtain⟨w,t,n,rfl,v⟩:=z9d j;have o:=pc_put n x;have k:=zju u f a (z4u n x) (g:=262) (cap:=[.rptr (.int .i64 n),.rptr (z0o x)]) (by simp only[pureD.pureL,z02,pureD,Z3]) (fun q l e=>pc_put1 n x m q (z6m u f q l) (v q l e));rw[(show (atR a (z4u n x) u).1=z10 a (z4u n x) u from by rw[zg8 (z4u n x) ((z18 u).1 w.1).2.2.2.1 t])]at k;rw[j]at c⊢;rw[if_neg (fun h=>h rfl),YE]
  repeat'(first|refine nxt ?_|((first|refine zqh fun K b=>?_|refine zqe (by decide+kernel) fun K b=>?_|refine zqs (c) ?_|refine zqt (o) ?_|refine zqt (k) ?_);simp(disch:=omega)only[go_sem,Z0,Zk,↓reduceIte,Z2,Z1])|(refine zqd _ rfl ?_ ?_<;>intro d<;>(first|(cases d;done)|((try omega))))|refine zqu (by(simp(disch:=omega)only[go_sem,Z0,↓reduceIte,Z1]);rfl) rfl ?_|(refine b _ ?_;clear b K))
  refine z06 ?_ (XY _);simp only[pureD,pureD.pureL,z04,Z3]
 ·rw[if_pos j]
  repeat'(first|refine nxt ?_|((first|refine zqh fun K b=>?_|refine zqs (c) ?_);simp(disch:=omega)only[go_sem,Z0,↓reduceIte,Z2,Z1])|(refine zqd _ rfl ?_ ?_<;>intro d<;>(((try simp only[z05]at d);try omega)))|refine zqu (by(simp(disch:=omega)only[go_sem,Z0,↓reduceIte,Z2,Z1]);rfl) rfl ?_|(refine b _ ?_;clear b K))
  exact z06 rfl (Le.tup ⟨z4c,XY _,trivial⟩)
theorem zp9(u x:T)(g:szB u=true)(h:szB x=true)(d:cntT u<=1000000)(e:cntT x<=1000000)(f:depT u<=1000000)(dx:depT x<=1000000)(a:Idv) :
  PC prog 26 [z0o u,z0z a,z0o x] (.int .i64 (z4q u a 0 x)):=by
 have c:=pc_fits u x g h d e f dx a 0;refine z14 1 (by simp only[pureD.pureL,z02,Z3];rfl) rfl (zqzj [] func26 rfl (by decide+kernel) rfl ?_)
 repeat'(first|((first|refine zqh fun K b=>?_|refine zqs (c) ?_);simp(disch:=omega)only[go_sem,Z0,↓reduceIte,Z2,Z1])|refine nxt ?_|refine zqU ?_|(refine b _ ?_;clear b K))
 exact z1o rfl
end
section
open Abs Facts Tr
namespace Tr
theorem zda{u x:T}{a:Idv}{n:Nat}(d:standsT u=true)(f:standsT x=true)(g:x.kind≠0)(h:a∈idsT u)(j:z1h (z07 a u).1.kind x.kind=true)(m:n<=(z07 a u).1.kids.length)
  (k:z2u (z07 a u).1.kids x.kind x.label=false) (o:(z07 a u).1.kids.length<64) (p:(z3i a u).length+1+depT x<=8) (e:cntT u+cntT x<=1024) (b:∀i∈idsT x,i∉idsT u):z4q u a n x=0:=by
 unfold z4q;rw[if_neg (by rw[d,f];simp[g]),if_neg (by rw[z1y,decide_eq_true h];simp),if_neg (by rw[j];simp),if_neg (by omega),if_neg (by rw[k];simp),if_neg (by omega),if_neg];rw[Yi];rintro⟨i,l,c⟩;rw[z1y,decide_eq_true_eq]at c;exact b i l c
theorem zko{C:Ctx}{q:T}{id:Idv}(a:q.id=id)(h:id∉z89 C):(z3i id (z2s C q)).length=zyc C:=by
 rw[zi8 (a ▸ z1b q) C h,zbm a,Zw,zq9]
theorem z1f{t:T}(h:standsT t=true):(idsT t).Nodup:=((z18 t).1 h).2.2.2.1
theorem zce{u x:T}{d:Idv}{n:Nat}(h:z4q u d n x=0):∃(C:Ctx) (q:T) (l r:List T),u=z2s C (q.setKids (l++r))/\l.length=n/\q.id=d/\z10 d (z4u n x) u=z2s C (q.setKids (l++x::r)) /\
  standsT (z10 d (z4u n x) u)=true/\z0q x.id (z10 d (z4u n x) u)=u/\z07 x.id (z10 d (z4u n x) u)=(x,true)/\z3c x.id (z10 d (z4u n x) u)=(d,(n:Int),true)/\¬(z10 d (z4u n x) u).id=x.id /\
  (atR d (z4u n x) u).1=z10 d (z4u n x) u/\(∀i∈idsT x,i∉idsT u)/\cntT (z10 d (z4u n x) u)=cntT u+cntT x:=by
 obtain⟨⟨M,O,P,Q,R,U,W,h9,F,G⟩,B,n',hn,H⟩:=z9d h;obtain rfl:n=n':=by omega
 have g:∀i∈idsT x,i∉idsT u:=fun i X B=>by
  have:=Y7.1 G i X;rw[z1y,decide_eq_true B]at this;exact this rfl
 have z:=z1f M;obtain⟨C,e,p,j,_⟩:=focus d u B
 have I:=z4r Q;have hk:=H _ I p;generalize Y:(z07 d u).1=q at *;have L:q=q.setKids (q.kids.take n++q.kids.drop n):=by rw[Ze,z9a]
 generalize N:q.kids.take n=l at *;generalize Z:q.kids.drop n=r at *;have k:l.length=n:=by rw[<-N,Zh];omega
 have w:q.kids=l++r:=by rw[<-N,<-Z,Ze]
 have f:u=z2s C (q.setKids (l++r)):=e.trans (congrArg (z2s C) L);have o:=g x.id (z1b x);have y:x.id∈idsT (q.setKids (l++x::r)):=by rw[z29];exact Z6 _ (ze1.2 (.inr (.inl (z1b x))))
 rw[f,z2x,z29,Z8]at o;simp only[Za,Z7,not_or]at o;obtain⟨E,⟨A,K,k4⟩,k5⟩:=o;have m:d∉z4b C:=(z2c (x:=q) (by rw[<-e];exact z) (p ▸ z1b q)).2;have s:z10 d (z4u n x) u=z2s C (q.setKids (l++x::r)):=by
  rw[e,z4n (z4u n x) p C j m];rw[L,<-k,zvx]
  rfl
 have J:standsT (z2s C (q.setKids (l++x::r)))=true:=by
  refine z003 (by rw[<-f];exact M) O P R (by rw[<-w];exact U) (by rw[<-w];exact W) ?_ (by rw[<-f];exact F) (by rw[<-f];exact g);have:=zko p j;rw[<-e]at this;omega
 rw[s];refine⟨C,q,l,r,f,k,p,rfl,J,?_,?_,?_,?_,?_,g,?_⟩
 ·rw[zbp (fun e=>A e.symm) rfl K k4 C E k5,f]
 ·rw[z7h y C E,znn (fun e=>A e.symm) K (z1b x),z30 rfl]
 ·rw[zno y (fun e=>A e.symm) C E,zw9 (fun e=>A e.symm) K rfl,p,k]
 ·intro v;cases C with
  |hole=>exact A v.symm
  |node t a c b=>exact(z5l E).1 v
 ·rw[zg8 (z4u n x) z B,s]
 ·rw[f,z7c,z7c,zok];omega
theorem z6t{u:T}{id:Idv}(v:standsT u=true)(E:¬u.id=id)(G:id∈idsT u):∃(a:Idv) (n:Nat) (x:T),z3c id u=(a,(n:Int),true)/\z07 id u=(x,true)/\x.id=id/\standsT (z0q id u)=true/\standsT x=true/\x.kind≠0 /\
  z4q (z0q id u) a n x=0/\z10 a (z4u n x) (z0q id u)=u/\(∀i∈idsT x,i∉idsT (z0q id u))/\a∈idsT (z0q id u)/\cntT (z0q id u)+cntT x=cntT u/\(∀i∈idsT u,i∈idsT x \/ i∈idsT (z0q id u)):=by
 obtain⟨C,q,l,x,r,e,g,I,P,N,F,H⟩:=zjl E G;have d:=z1f v;subst e;have m:id∈idsT (q.setKids (l++x::r)):=by rw[z29];exact Z6 _ (ze1.2 (.inr (.inl (g ▸ z1b x))))
 obtain⟨K,L⟩:=z2c d m;have O:=(zbq (z88 d)).1 id (g ▸ z1b x);have J:=zbp I g N O.2.2 C K L;obtain⟨j,p,s,w,y,z,A,B,t⟩:=z004 v;rw[J];have f:=z1f j;have c:q.id∈idsT (q.setKids (l++r)):=by rw[z29];exact ZF
 obtain⟨o,M⟩:=z2c f c;have b:z07 q.id (z2s C (q.setKids (l++r)))=(q.setKids (l++r),true):=by rw[z7h c C o];exact z30 rfl
 refine⟨q.id,l.length,x,H,F,g,j,p,s,?_,?_,t,z80 C c,?_,fun i k=>?_⟩
 ·refine zda j p s (z80 C c) (by rw[b];exact w) ?_ (by rw[b];exact y) (by rw[b];exact z) ?_ B t
  ·rw[b];show l.length<=(l++r).length;simp
  ·rw[zko (id:=q.id) (q:=q.setKids (l++r)) rfl o];exact A
 ·rw[z4n (id:=q.id) (z4u l.length x) (q:=q.setKids (l++r)) rfl C o M,zvx]
 ·rw[z7c,z7c,zok];omega
 ·rw[z2x,z29,Z8,Zf]at k;rw[z2x,z29,Z8];simp only[Za,Z7]at k⊢;rcases k with h|(h|h|h|h)|h
  ·exact .inr (.inl h)
  ·exact .inr (.inr (.inl (.inl h)))
  ·exact .inr (.inr (.inl (.inr (.inl h))))
  ·exact .inl h
  ·exact .inr (.inr (.inl (.inr (.inr h))))
  ·exact .inr (.inr (.inr h))
theorem zoj{id:Idv}{t:T}(h:id∉idsT t):z0q id t=t:=wipe_no t fun k a b=>h (by rw[z1c];exact Z6 _ (Z5.2 ⟨k,a,b⟩))
theorem z4j(id:Idv)(t:T):(z0q id t).id=t.id/\(z0q id t).kind=t.kind/\(z0q id t).label=t.label/\(z0q id t).head=t.head/\(z0q id t).words=t.words:=by
 rw[z4z];exact⟨rfl,rfl,rfl,rfl,rfl⟩
theorem zdb(id:Idv):∀t:T,∀i∈idsT (z0q id t),i∈idsT t:=by
 refine z4a fun t e i b=>?_;rw[z4z,z29,Z7,Z5]at b;rw[z1c,Z7,Z5];rcases b with h|⟨k,d,h⟩
 ·exact .inl h
 ·obtain⟨c,a,rfl⟩:=Zl.1 d;exact .inr ⟨c,(ZB.1 a).1,e c (ZB.1 a).1 i h⟩
theorem zx8{k:Idv}{u:T}:∀i∈idsT (z07 k u).1,(z07 k u).2=true->i∈idsT u:=fun i b a=>by
 have c:k∈idsT u:=by rw[z1y,decide_eq_true_eq]at a;exact a
 obtain⟨C,e,_,_,_⟩:=focus k u c
 rw[e];exact z80 C b
theorem zx9{id:Idv}:∀u:T,depT (z0q id u)<=depT u:=by
 have b:∀(l:List T) (g:T->T) (p:T->Bool),(∀k∈l,depT (g k)<=depT k)->ze5 (((l.filter p).map g).map depT)<=ze5 (l.map depT):=by
  intro l g p h
  induction l with
  |nil=>simp
  |cons k l a =>
   have d:=h k (by simp);have e:=a fun k c=>h k (Z6 _ c);rw[ZE,Zg,zf0];split
   ·rw[Zg,Zg,zf0];omega
   ·omega
 refine z4a fun u a=>?_;rw[z4z,z5w,z5w u];exact b u.kids (z0q id) (z8i id) a
theorem dep_find(id:Idv)(u:T):depT (z07 id u).1<=depT u:=by
 by_cases h:id∈idsT u
 ·obtain⟨C,e,_⟩:=focus id u h
  conv=>rhs;rw[e]
  rw[zag];omega
 ·rw[zr0 h,show depT T.zero=0 from by decide+kernel];omega
theorem zfr{id k:Idv}:∀u:T,(idsT u).Nodup->¬u.id=id->k∈idsT u->(∀y,z07 id u=(y,true)->k∉idsT y)->z07 k (z0q id u)=(z0q id (z07 k u).1,true):=by
 refine z4a fun u J H A C E=>?_
 by_cases f:id∉idsT u
 ·rw[zoj f];have l:(z07 k u).2=true:=by rw[z1y,decide_eq_true C]
  have:=zoj (id:=id) (t:=(z07 k u).1) fun r=>f (zx8 id r l);rw[this,<-l]
 rw[Ye]at f
 by_cases c:u.id=k
 ·rw[z30 c];exact z30 (by rw[(z4j id u).1];exact c)
 ·obtain⟨i,d,L,B,G⟩:=z8w c (z4s.2 C);have g:=z4s.1 B;rw[z5k G B];obtain⟨K,F,p⟩:=z77 H;have n:=Zd d;have b:¬u.kids[i].id=id:=fun e=>by
   refine E u.kids[i] ?_ g;have I:z27 id u.kids[i]=[u.kids[i]]:=z4m e;have a:z27 id u.kids[i] ≠ []:=by rw[I];simp
   rw[z5k (z5j A d (fun j q h=>(z6a id _).2 (p i j d h (by omega) id (e ▸ z1b _))) a) a];exact z30 e
  have m:=J _ n (F _ n) b g (fun y l=>E y (by
   have a:z27 id u.kids[i] ≠ []:=zcu.1 (by rw[l]);rw[z5k (z5j A d (fun j q h=>(z6a id _).2 (p i j d h (by omega) id (z4s.1 a))) a) a]
   exact l))
  have s:u.kids=u.kids.take i++u.kids[i]::u.kids.drop (i+1):=by rw[<-Y4 d,Ze]
  have v:k∈idsT (z0q id u.kids[i]):=by
   have:(z07 k (z0q id u.kids[i])).2=true:=by rw[m]
   rw[z1y,decide_eq_true_eq]at this;exact this
  rw[z4z];have e:(u.kids.filter (z8i id)).map (z0q id)=((u.kids.take i).filter (z8i id)).map (z0q id)++z0q id u.kids[i]::((u.kids.drop (i+1)).filter (z8i id)).map (z0q id):=by
   conv=>lhs;rw[s]
   rw[Y0,ZE,if_pos (zbo b),Zn,Zg]
  rw[e,znn c ?_ v,m];intro r;obtain⟨y,z,x⟩:=Z5.1 r;obtain⟨M,w,rfl⟩:=Zl.1 z;have o:=(ZB.1 w).1;obtain⟨j,q,rfl⟩:=Zz o;rw[Zh]at q;have:=zdb id _ k x;rw[Yg]at this;exact p i j d (by omega) (by omega) k g this
end Tr
end
section
open Abs Facts Tr
attribute [local irreducible] awp
theorem zye(u:T)(c:szB u=true)(d:cntT u<=1000000)(e:depT u<=1000000):PC prog 173 [.rptr (z0o u)] (.bool (!standsT u)):=by
 have b:=z9u u c (by omega) (by omega);refine z14 1 (by simp only[pureD.pureL,z02,pureD,Z3]) rfl (zqzj [] func173 rfl (by decide+kernel) rfl ?_)
 repeat'(first|((first|refine zqh fun K a=>?_|refine zqs (b) ?_);simp(disch:=omega)only[go_sem,Z0,↓reduceIte,Z2])|refine nxt ?_|refine zqU ?_|(refine a _ ?_;clear a K))
 exact z01 rfl
theorem zyf(u:T)(c:szB u=true)(d:cntT u<=1000000)(e:depT u<=1000000)(id:Idv):PC prog 174 [.rptr (z0o u),.rptr (z0z id)] (.bool (!(z07 id u).2)):=by
 have b:=zr4 u (z7o u c) (by omega) id;refine z14 1 (by simp only[pureD.pureL,z02,pureD];rfl) rfl (zqzj [] func174 rfl (by decide+kernel) rfl ?_)
 repeat'(first|((first|refine zqh fun K a=>?_|refine zqs (b) ?_);simp(disch:=omega)only[go_sem,Z0,↓reduceIte,Z2])|refine nxt ?_|refine zqU ?_|(refine a _ ?_;clear a K))
 exact z01 rfl
theorem zyg(u:T)(id:Idv):PC prog 175 [.rptr (z0o u),.rptr (z0z id)] (.bool (decide (u.id=id))):=by
 refine z14 1 (by simp only[pureD.pureL,z02,pureD];rfl) rfl (zqzj [] func175 rfl (by decide+kernel) rfl ?_)
 repeat'(first|((refine zqh fun K a=>?_);simp(disch:=omega)only[go_sem,Z0,↓reduceIte,reduceCtorEq,Z2,Z1])|refine nxt ?_|refine zqU ?_|(refine a _ ?_;clear a K))
 exact z01 rfl
theorem zyh(u:T)(id:Idv)(e f g:FuncId)(b c d:List D):z9o [(e,b,1,!standsT u),(f,c,4,!(z07 id u).2),(g,d,9,decide (u.id=id))]=zdd u id:=by
 unfold zdd;cases h:standsT u
 ·rw[if_pos rfl];rfl
 rw[if_neg (by simp),ZU,z65];cases i:(z07 id u).2
 ·rw[if_pos rfl];rfl
 rw[if_neg (by simp),ZU,z65]
 by_cases a:u.id=id
 ·rw[if_pos a,decide_eq_true a];rfl
 ·rw[if_neg a,decide_eq_false a];rfl
theorem znp{u:T}{id:Idv}(h:zdd u id=0):standsT u=true/\id∈idsT u/\¬u.id=id:=by
 unfold zdd at h;split at h
 ·cases h
 rename_i b;split at h
 ·cases h
 rename_i a;split at h
 ·cases h
 rename_i c;rw[Zi]at b a;rw[z1y,decide_eq_true_eq]at a;exact⟨b,a,c⟩
theorem zjn(u:T)(l:szB u=true)(n:depT u<=1000000)(id:Idv)(d:standsT u=true)(j:id∈idsT u)(e:¬u.id=id):PC prog 176 [z0o u,z0z id] (z0o (z0q id u)):=by
 obtain⟨i,f,_,m,q,b,g,k⟩:=at_wipe (z1f d) e j
 have h:=zyt u l (by omega) id i f (fun o c a=>by
  have:=z8s (z1f d) c a;rw[this]at b;simp only[Ys,and_true]at b
  rw[b];exact g)
 rw[m]at h;exact h
theorem pc_Remove(u:T)(f:szB u=true)(i:cntT u<=1000000)(h:depT u<=1000000)(id:Idv) :
  PC prog 101 [z0o u,z0z id] (.tup [z0o (if zdd u id=0 then z0q id u else T.zero),z0o (if zdd u id=0 then (z07 id u).1 else T.zero),.int .i64 (zdd u id)]):=by
 have j:=z8q u (z7o u f) (by omega) id
 have g:=zcs [(173,[.rptr (z0o u)],1,!standsT u),(174,[.rptr (z0o u),.rptr (z0z id)],4,!(z07 id u).2),(175,[.rptr (z0o u),.rptr (z0z id)],9,decide (u.id=id))]
  (by simp) (by
   intro c b;simp only[Z7,ZP,or_false]at b;rcases b with rfl|rfl|rfl
   ·exact⟨by simp only[pureD.pureL,z02,pureD,Z3],zye u f i h⟩
   ·exact⟨by simp only[pureD.pureL,z02,pureD];rfl,zyf u f i h id⟩
   ·exact⟨by simp only[pureD.pureL,z02,pureD];rfl,zyg u id⟩)
 rw[zyh]at g;refine z14 3 (by simp only[pureD.pureL,z02];rfl) (by simp only[pureD.pureL,z02,pureD,Z3]) (zqzj [3000029,3000030,5000031,5000033,600032,900004,600004,900002,600005,900003] func101 rfl (by decide+kernel) rfl ?_);rw[show Tryz.f101.results.toList=[.cell 4 27,.cell 5 27,.tmp 6] from rfl]
 by_cases d:zdd u id=0
 ·obtain⟨m,n,o⟩:=znp d;rw[d]at g;rw[d,if_pos rfl,if_pos rfl];have k:=zjn u f h id m n o;have l:=zgs (z07 id u).1 (z9g id u f)
  repeat'(first|((refine zqh fun K a=>?_);simp(disch:=omega)only[go_sem,Z0,↓reduceIte,reduceCtorEq,Z2,Zo,Z1])|(refine a _ ?_;clear a K))
  refine z20 (PC.borrow g rfl 6 (z00 (z3s 5 rfl (z00 (z13 _ 2 rfl (z00 (z0b (e:=27) 1 ?_ z0p (z04 _)) z0i)) (z00 (z13 _ 2 rfl (z00 (z0b (e:=27) 1 ?_ z0p (z04 _)) (z00 (z0b (e:=23) 1 ?_ z25 rfl) z0i))) (z00 (z13 _ 2 rfl (z00 (z0b (e:=27) 1 ?_ z0p (z04 _)) (z00 (z0b (e:=23) 1 ?_ z25 rfl) z0i))) z0i)))) z0i)) ?_
  all_goals try(focus ((simp(disch:=omega)only[go_sem,Z0,z0a]);done))
  (try(simp(disch:=omega)only[go_sem,Z0]));repeat'(first|refine nxt ?_|((first|refine zqh fun K a=>?_|refine zqe (by decide+kernel) fun K a=>?_|refine zqs (j) ?_|refine zqt (k) ?_|refine zqt (l) ?_);simp(disch:=omega)only[go_sem,Z0,Zk,↓reduceIte,Z2,Z1])|(refine zqd _ rfl ?_ ?_<;>intro b<;>(first|(cases b;done)|((try omega))))|refine zqu (by(simp(disch:=omega)only[go_sem,Z0,↓reduceIte,Z1]);rfl) rfl ?_|(refine a _ ?_;clear a K))
  refine z06 ?_ (XY _);simp only[pureD,pureD.pureL,z04,Z3]
 ·rw[if_neg d,if_neg d]
  repeat'(first|((refine zqh fun K a=>?_);simp(disch:=omega)only[go_sem,Z0,↓reduceIte,reduceCtorEq,Z2,Zo,Z1])|(refine a _ ?_;clear a K))
  refine z20 (PC.borrow g rfl 6 (z00 (z3s 5 rfl (z00 (z13 _ 2 rfl (z00 (z0b (e:=27) 1 ?_ z0p (z04 _)) z0i)) (z00 (z13 _ 2 rfl (z00 (z0b (e:=27) 1 ?_ z0p (z04 _)) (z00 (z0b (e:=23) 1 ?_ z25 rfl) z0i))) (z00 (z13 _ 2 rfl (z00 (z0b (e:=27) 1 ?_ z0p (z04 _)) (z00 (z0b (e:=23) 1 ?_ z25 rfl) z0i))) z0i)))) z0i)) ?_
  all_goals try(focus ((simp(disch:=omega)only[go_sem,Z0,z0a]);done))
  (try(simp(disch:=omega)only[go_sem,Z0]));repeat'(first|refine nxt ?_|((refine zqh fun K a=>?_);simp(disch:=omega)only[go_sem,Z0,↓reduceIte,Z2,Z1])|(refine zqd _ rfl ?_ ?_<;>intro b<;>(((try simp only[z05]at b);try omega)))|refine zqu (by(simp(disch:=omega)only[go_sem,Z0,↓reduceIte,Z2,Z1]);rfl) rfl ?_|(refine a _ ?_;clear a K))
  exact z06 rfl (Le.tup ⟨z4c,z4c,XY _,trivial⟩)
namespace Tr
def T.setLabel(t:T)(s:ByteArray):T:=.mk t.id t.kind s t.head t.words t.kids
def T.setWords(t:T)(l:List Wd):T:=.mk t.id t.kind t.label t.head l t.kids
def T.setHead(t:T)(l:List Wd):T:=.mk t.id t.kind t.label l t.words t.kids
def zdu(u:T)(id:Idv)(a:ByteArray):Bool:=decide ((z07 id u).1.label=a) ||((z3c id u).2.2&&z2u (z07 (z3c id u).1 u).1.kids (z07 id u).1.kind a)
def znc(u:T)(id:Idv)(a:ByteArray):Int :=
 if standsT u=false \/ z3x a=false then 1 else
 if (z07 id u).2=false then 4 else
 if (z07 id u).1.kind=0 then 9 else
 if zdu u id a=true then 10 else 0
end Tr
theorem zt6(u:T)(e:szB u=true)(k:cntT u<=1000000)(l:depT u<=1000000)(x:T)(id:Idv)(a:ByteArray):PC prog 187 [.rptr (z0o u),.rptr (z0z id),.rptr (z0o x),.rptr (.str a)] (.bool (decide (x.label=a) ||((z3c id u).2.2&&z2u (z07 (z3c id u).1 u).1.kids x.kind a))):=by
 have j:=z9g (z3c id u).1 u e;have g:=z9t u (z7o u e) (by omega) id;have h:=z8q u (z7o u e) (by omega) (z3c id u).1;have i:=znr (z07 (z3c id u).1 u).1.kids (z79 j).1 x.kind a;refine z14 1 (by simp only[pureD.pureL,z02,pureD,Z3];rfl) rfl (zqzj [] func187 rfl (by decide+kernel) rfl ?_)
 repeat'(first|((first|refine zqh fun K f=>?_|refine zqs (g) ?_|refine zqs (h) ?_|refine zqs (i) ?_);simp(disch:=omega)only[go_sem,Z0,↓reduceIte,reduceCtorEq,Z2,Z1])|refine nxt ?_|refine zqU ?_|(refine f _ ?_;clear f K)|(refine zqf (fun d=>?_) (fun d=>?_)<;>(have b:=d;try simp only[z05]at b)<;>((first|have c:(_:Bool)=_:=b|have c:=eq_false b|have c:=eq_true b);simp(disch:=omega)only[go_sem,Z0,↓reduceIte,reduceCtorEq,Z2,d,c,z0l];clear d c;try omega)))
 all_goals exact z01 (by simp[*])
theorem zt7(b:Bool):PC prog 188 [.rptr (.bool b)] (.bool (!b)):=by
 refine z14 1 (by simp only[pureD.pureL,pureD,Z3]) rfl (zqzj [] func188 rfl (by decide+kernel) rfl ?_)
 repeat'(first|((refine zqh fun K a=>?_);simp(disch:=omega)only[go_sem,Z0,↓reduceIte,Z2])|refine nxt ?_|refine zqU ?_|(refine a _ ?_;clear a K))
 exact z01 rfl
theorem zt8(x:T):PC prog 189 [.rptr (z0o x)] (.bool (decide (x.kind=0))):=by
 refine z14 1 (by simp only[pureD.pureL,z02,pureD,Z3]) rfl (zqzj [] func189 rfl (by decide+kernel) rfl ?_)
 repeat'(first|((refine zqh fun K a=>?_);simp(disch:=omega)only[go_sem,Z0,↓reduceIte,reduceCtorEq,Z2])|refine nxt ?_|refine zqU ?_|(refine a _ ?_;clear a K))
 exact z01 rfl
theorem zt9(q:T)(a:ByteArray):PC prog 190 [z0o q,.rptr (.str a)] (z0o (q.setLabel a)):=by
 refine z14 1 (by simp only[pureD.pureL,z02,pureD,Z3]) (z02 _) (zqzj [] func190 rfl (by decide+kernel) rfl ?_);rw[show Tryz.f190.results.toList=[.cell 3 27] from rfl];rw[show z0o q=.agg _ from by rw[z0o,z0n]]
 repeat'(first|((refine zqh fun K b=>?_);simp(disch:=omega)only[go_sem,Z0,↓reduceIte,reduceCtorEq,Z2,Z1,Zx,Zt,Zq])|refine nxt ?_|refine zqu (by(simp(disch:=omega)only[go_sem,Z0,↓reduceIte,Z2,Z1]);rfl) rfl ?_|(refine b _ ?_;clear b K))
 rw[z0o,z0n];exact z06 (by simp only[pureD,pureD.pureL,z0g,z1g,Z3]) (XY _)
theorem first_rel(a:Bool)(x:T)(b:Bool)(f g i:FuncId)(c d e:List D):z9o [(f,c,4,!a),(g,d,9,decide (x.kind=0)),(i,e,10,b)]=(if a=false then 4 else if x.kind=0 then 9 else if b=true then 10 else 0):=by
 cases a
 ·rw[if_pos rfl];rfl
 rw[if_neg (by simp),ZU,z65]
 by_cases h:x.kind=0
 ·rw[if_pos h,decide_eq_true h];rfl
 rw[if_neg h,decide_eq_false h,z65];cases b
 ·rw[if_neg (by simp)];rfl
 ·rw[if_pos rfl];rfl
theorem zy1(u:T)(s:szB u=true)(x:cntT u<=1000000)(y:depT u<=1000000)(id:Idv)(a:ByteArray)(A:a.size<=1000000) :
  PC prog 106 [z0o u,z0z id,.str a] (.tup [z0o (if znc u id a=0 then z10 id (fun q=>q.setLabel a) u else T.zero),.int .i64 (znc u id a)]):=by
 have l:=z9u u s (by omega) (by omega);have m:=zal a (by unfold maxLen;omega);have t:=z8q u (z7o u s) (by omega) id
 have n:=zcs [(188,[.rptr (.bool (z07 id u).2)],4,!(z07 id u).2),(189,[.rptr (z0o (z07 id u).1)],9,decide ((z07 id u).1.kind=0)),(187,[.rptr (z0o u),.rptr (z0z id),.rptr (z0o (z07 id u).1),.rptr (.str a)],10,zdu u id a)]
  (by simp) (by
   intro c i;simp only[Z7,ZP,or_false]at i;rcases i with rfl|rfl|rfl
   ·exact⟨rfl,zt7 _⟩
   ·exact⟨by simp only[pureD.pureL,z02,pureD,Z3],zt8 _⟩
   ·exact⟨by simp only[pureD.pureL,z02,pureD,Z3];rfl,zt6 u s x y _ id a⟩)
 rw[first_rel]at n;refine z14 3 (by simp only[pureD.pureL,z02,pureD,Z3];rfl) (by simp only[pureD.pureL,z02,pureD,Z3]) (zqzj [] func106 rfl (by decide+kernel) rfl ?_);rw[show Tryz.f106.results.toList=[.cell 6 27,.tmp 7] from rfl]
 by_cases k:standsT u=false
 ·rw[show znc u id a=1 from by unfold znc;rw[if_pos (.inl k)],if_neg (by decide)];rw[k]at l
  repeat'(first|refine nxt ?_|((first|refine zqh fun K f=>?_|refine zqs (l) ?_);simp(disch:=omega)only[go_sem,Z0,↓reduceIte,Z2,Z1])|(refine zqd _ rfl ?_ ?_<;>intro i<;>(first|(cases i;done)|((try omega))))|refine zqu (by(simp(disch:=omega)only[go_sem,Z0,↓reduceIte,Z2,Z1]);rfl) rfl ?_|(refine f _ ?_;clear f K))
  exact z06 rfl (Le.tup ⟨z4c,XY _,trivial⟩)
 by_cases o:z3x a=false
 ·rw[show znc u id a=1 from by unfold znc;rw[if_pos (.inr o)],if_neg (by decide)];rw[Zi]at k;rw[k]at l;rw[o]at m
  repeat'(first|refine nxt ?_|((first|refine zqh fun K f=>?_|refine zqs (l) ?_|refine zqs (m) ?_);simp(disch:=omega)only[go_sem,Z0,↓reduceIte,Z2,Z1])|(refine zqd _ rfl ?_ ?_<;>intro i<;>(first|(cases i;done)|((try omega))))|refine zqu (by(simp(disch:=omega)only[go_sem,Z0,↓reduceIte,Z2,Z1]);rfl) rfl ?_|(refine f _ ?_;clear f K))
  exact z06 rfl (Le.tup ⟨z4c,XY _,trivial⟩)
 have w:znc u id a=(if (z07 id u).2=false then 4 else if (z07 id u).1.kind=0 then 9 else if zdu u id a=true then 10 else 0):=by unfold znc;rw[if_neg (by rw[not_or];exact⟨k,o⟩)]
 rw[<-w]at n;rw[Zi]at k o;rw[k]at l;rw[o]at m
 by_cases r:znc u id a=0
 ·have p:(z07 id u).2=true:=by
   rw[w]at r
   by_cases h:(z07 id u).2=false
   ·rw[if_pos h]at r;cases r
   ·simpa using h
  have z:id∈idsT u:=by rw[z1y,decide_eq_true_eq]at p;exact p
  have v:=zju u s id (fun q=>q.setLabel a) (g:=190) (cap:=[.rptr (.str a)]) rfl (fun q _ _=>zt9 q a);rw[(show (atR id (fun q=>q.setLabel a) u).1=z10 id (fun q=>q.setLabel a) u from by rw[zg8 _ (z1f k) z])]at v;rw[r]at n⊢;rw[if_pos rfl]
  repeat'(first|refine nxt ?_|((first|refine z09 (N:=5) rfl fun K f=>?_|refine zqs (l) ?_|refine zqs (m) ?_|refine zqs (t) ?_);simp(disch:=omega)only[go_sem,Z0,↓reduceIte,Z2,Z1,Zx])|(refine zqd _ rfl ?_ ?_<;>intro i<;>(first|(cases i;done)|((try omega))))|(refine f _ ?_;clear f K))
  refine z33 fun K f=>?_;simp(disch:=omega)only[go_sem,Z0,↓reduceIte,reduceCtorEq,Z2,Zo,Z1];refine z20 (PC.borrow n rfl 6 (z00 (z3s 5 rfl (z00 (z13 _ 2 rfl (z00 (z2n (e:=4) 2 ?_ zk4 (z0e 1 rfl)) z0i)) (z00 (z13 _ 2 rfl (z00 (z0b (e:=27) 1 ?_ z0p (z04 _)) z0i)) (z00 (z13 _ 2 rfl (z00 (z0b (e:=27) 1 ?_ z0p (z04 _)) (z00 (z0b (e:=23) 1 ?_ z25 rfl) (z00 (z0b (e:=27) 1 ?_ z0p (z04 _)) (z00 (z2n (e:=9) 2 ?_ z7q (z0e 1 rfl)) z0i))))) z0i)))) z0i)) ?_
  all_goals try(focus ((simp(disch:=omega)only[go_sem,Z0,z0a]);done))
  (simp(disch:=omega)only[go_sem,Z0]);refine f _ _ (zwk (b:=2) (j:=5) (e:=9) (cs:=[.str a]) (d:=.str a) (by(simp(disch:=omega)only[go_sem,Z0])) (.inl rfl) rfl (by(simp(disch:=omega)only[go_sem,Z0]))) ?_;clear f K
  repeat'(first|refine nxt ?_|((first|refine zqh fun K f=>?_|refine zqs (v) ?_);simp(disch:=omega)only[go_sem,Z0,↓reduceIte,Z2,Z1])|(refine zqd _ rfl ?_ ?_<;>intro i<;>(first|(cases i;done)|((try omega))))|refine zqu (by(simp(disch:=omega)only[go_sem,Z0,↓reduceIte,Z1]);rfl) rfl ?_|(refine f _ ?_;clear f K))
  refine z06 ?_ (XY _);simp only[pureD,pureD.pureL,z04,Z3]
 ·rw[if_neg r]
  repeat'(first|refine nxt ?_|((first|refine zqh fun K f=>?_|refine zqs (l) ?_|refine zqs (m) ?_|refine zqs (t) ?_);simp(disch:=omega)only[go_sem,Z0,↓reduceIte,reduceCtorEq,Z2,Zo,Z1,Zx])|(refine zqd _ rfl ?_ ?_<;>intro i<;>(first|(cases i;done)|((try omega))))|(refine f _ ?_;clear f K))
  refine z20 (PC.borrow n rfl 6 (z00 (z3s 5 rfl (z00 (z13 _ 2 rfl (z00 (z2n (e:=4) 2 ?_ zk4 (z0e 1 rfl)) z0i)) (z00 (z13 _ 2 rfl (z00 (z0b (e:=27) 1 ?_ z0p (z04 _)) z0i)) (z00 (z13 _ 2 rfl (z00 (z0b (e:=27) 1 ?_ z0p (z04 _)) (z00 (z0b (e:=23) 1 ?_ z25 rfl) (z00 (z0b (e:=27) 1 ?_ z0p (z04 _)) (z00 (z2n (e:=9) 2 ?_ z7q (z0e 1 rfl)) z0i))))) z0i)))) z0i)) ?_
  all_goals try(focus ((simp(disch:=omega)only[go_sem,Z0,z0a]);done))
  (try(simp(disch:=omega)only[go_sem,Z0]));repeat'(first|refine nxt ?_|((refine zqh fun K f=>?_);simp(disch:=omega)only[go_sem,Z0,↓reduceIte,Z2,Z1])|(refine zqd _ rfl ?_ ?_<;>intro i<;>(((try simp only[z05]at i);try omega)))|refine zqu (by(simp(disch:=omega)only[go_sem,Z0,↓reduceIte,Z2,Z1]);rfl) rfl ?_|(refine f _ ?_;clear f K))
  exact z06 rfl (Le.tup ⟨z4c,XY _,trivial⟩)
namespace Tr
def oddB(l:List Wd):Bool:=l.any fun w => !z5t w.text
def z4o(u:T)(id:Idv)(l:List Wd):Int :=
 if standsT u=false \/ oddB l=true then 1 else
 if (z07 id u).2=false then 4 else
 if (z07 id u).1.kind=0 then 9 else
 if 256<l.length then 6 else 0
theorem zd0{u:T}{id:Idv}{l:List Wd}(h:z4o u id l=0):standsT u=true/\id∈idsT u/\oddB l=false/\¬(z07 id u).1.kind=0/\l.length<=256:=by
 unfold z4o at h;split at h
 ·cases h
 rename_i a;split at h
 ·cases h
 rename_i b;split at h
 ·cases h
 rename_i c;split at h
 ·cases h
 rename_i d;rw[not_or,Zi,ZI]at a;rw[Zi,z1y,decide_eq_true_eq]at b;exact⟨a.1,b,a.2,c,by omega⟩
end Tr
theorem pc_write1(w:Wd)(d:w.text.size<=maxLen):PC prog 272 [z9i w] (.bool (!z5t w.text)):=by
 have a:=zmm true [w.text] (by unfold maxLen;simp) (by intro s c;simp at c;subst c;exact d);rw[show zee [w.text]=z5t w.text from by unfold zee;simp]at a;refine z14 1 rfl rfl (zqzj [] func272 rfl (by decide+kernel) rfl ?_)
 repeat'(first|((first|refine zqh fun K b=>?_|refine zqs (a) ?_);simp(disch:=omega)only[go_sem,Z0,↓reduceIte,reduceCtorEq,Z2,Z1])|refine nxt ?_|refine zqU ?_|(refine b _ ?_;clear b K))
 exact z01 rfl
theorem pc_write2(u:T)(i:szB u=true)(k:cntT u<=1000000)(m:depT u<=1000000)(l:List Wd)(n:l.length<=1000000)(j:∀w∈l,w.text.size<=maxLen):PC prog 274 [.rptr (z0o u),.rptr (z0f l),.rptr (.fn 272 [])] (.bool (!standsT u ||oddB l)):=by
 have e:=z9u u i (by omega) (by omega);have f:=zhv false l (by unfold maxLen;omega) (g:=272) (cap:=[]) (fun w => !z5t w.text) rfl (fun w h=>pc_write1 w (j w h));refine z14 1 (by simp only[pureD.pureL,z02,z0g,pureD,Z3]) rfl (zqzj [] func274 rfl (by decide+kernel) rfl ?_)
 repeat'(first|((first|refine zqh fun K d=>?_|refine zqs (e) ?_|refine zqs (f) ?_);simp(disch:=omega)only[go_sem,Z0,↓reduceIte,Z2,z0f])|refine nxt ?_|refine zqU ?_|(refine d _ ?_;clear d K)|(refine zqf (fun c=>?_) (fun c=>?_)<;>(have a:=c;try simp only[z05]at a)<;>((have b:(_:Bool)=_:=a);simp(disch:=omega)only[go_sem,Z0,↓reduceIte,Z2,b];clear c b;try omega)))
 all_goals exact z01 (by simp[a,oddB])
theorem pc_write3(b:Bool):PC prog 276 [.rptr (.bool b)] (.bool (!b)):=by
 refine z14 1 (by simp only[pureD.pureL,pureD,Z3]) rfl (zqzj [] func276 rfl (by decide+kernel) rfl ?_)
 repeat'(first|((refine zqh fun K a=>?_);simp(disch:=omega)only[go_sem,Z0,↓reduceIte,Z2])|refine nxt ?_|refine zqU ?_|(refine a _ ?_;clear a K))
 exact z01 rfl
theorem pc_write4(x:T):PC prog 277 [.rptr (z0o x)] (.bool (decide (x.kind=0))):=by
 refine z14 1 (by simp only[pureD.pureL,z02,pureD,Z3]) rfl (zqzj [] func277 rfl (by decide+kernel) rfl ?_)
 repeat'(first|((refine zqh fun K a=>?_);simp(disch:=omega)only[go_sem,Z0,↓reduceIte,reduceCtorEq,Z2])|refine nxt ?_|refine zqU ?_|(refine a _ ?_;clear a K))
 exact z01 rfl
theorem pc_write5(l:List Wd):PC prog 278 [.rptr (z0f l)] (.bool (decide (256<l.length))):=by
 refine z14 1 (by simp only[pureD.pureL,z0g,pureD,Z3]) rfl (zqzj [] func278 rfl (by decide+kernel) rfl ?_)
 repeat'(first|((refine zqh fun K a=>?_);simp(disch:=omega)only[go_sem,Z0,↓reduceIte,Z2,z0f])|refine nxt ?_|refine zqU ?_|(refine a _ ?_;clear a K))
 exact z01 (decide_eq_decide.2 (by omega))
theorem ztt(u:T)(id:Idv)(l:List Wd)(h i j k:FuncId)(d e f g:List D):z9o [(h,d,1,!standsT u ||oddB l),(i,e,4,!(z07 id u).2),(j,f,9,decide ((z07 id u).1.kind=0)),(k,g,6,decide (256<l.length))]=z4o u id l:=by
 unfold z4o;cases m:standsT u
 ·rw[if_pos (.inl rfl)];rfl
 by_cases a:oddB l=true
 ·rw[if_pos (.inr a),a];rfl
 rw[ZI]at a;rw[a];rw[if_neg (by simp)];cases n:(z07 id u).2
 ·rw[if_pos rfl];rfl
 rw[if_neg (by simp)]
 by_cases b:(z07 id u).1.kind=0
 ·rw[if_pos b,decide_eq_true b];rfl
 rw[if_neg b,decide_eq_false b]
 by_cases c:256<l.length
 ·rw[if_pos c,decide_eq_true c];rfl
 ·rw[if_neg c,decide_eq_false c];rfl
theorem zw7(u:T)(i:szB u=true)(m:cntT u<=1000000)(n:depT u<=1000000)(id:Idv)(l:List Wd)(r:l.length<=1000000)(t:∀w∈l,w.text.size<=maxLen)(f:T->T){g:FuncId}{cp:List D}(b:pureD.pureL cp=true)
  (p:∀q:T,PC prog g (z0o q::cp) (z0o (f q))) :
  PC prog 191 [z0o u,z0z id,z0f l,.fn g cp] (.tup [z0o (if z4o u id l=0 then z10 id f u else T.zero),.int .i64 (z4o u id l)]):=by
 have j:=z8q u (z7o u i) (by omega) id
 have d:=zcs [(274,[.rptr (z0o u),.rptr (z0f l),.rptr (.fn 272 [])],1,!standsT u ||oddB l),(276,[.rptr (.bool (z07 id u).2)],4,!(z07 id u).2),(277,[.rptr (z0o (z07 id u).1)],9,decide ((z07 id u).1.kind=0)),(278,[.rptr (z0f l)],6,decide (256<l.length))]
  (by simp) (by
   intro c b;simp only[Z7,ZP,or_false]at b;rcases b with rfl|rfl|rfl|rfl
   ·exact⟨by simp only[pureD.pureL,z02,z0g,pureD,Z3],pc_write2 u i m n l r t⟩
   ·exact⟨rfl,pc_write3 _⟩
   ·exact⟨by simp only[pureD.pureL,z02,pureD,Z3],pc_write4 _⟩
   ·exact⟨by simp only[pureD.pureL,z0g,pureD,Z3],pc_write5 l⟩)
 rw[ztt]at d;refine z14 3 (by simp only[pureD.pureL,z02,z0g,pureD,b,Z3];rfl) (by simp only[pureD.pureL,z02,pureD,Z3]) (zqzj [] func191 rfl (by decide+kernel) rfl ?_);rw[show Tryz.f191.results.toList=[.cell 8 27,.tmp 9] from rfl]
 by_cases h:z4o u id l=0
 ·obtain⟨o,s,_,_,_⟩:=zd0 h;have k:=zju u i id f b (fun q _ _=>p q);rw[(show (atR id f u).1=z10 id f u from by rw[zg8 _ (z1f o) s])]at k;rw[h]at d⊢;rw[if_pos rfl]
  repeat'(first|((first|refine zqh fun K a=>?_|refine zqs (j) ?_);simp(disch:=omega)only[go_sem,Z0,↓reduceIte,reduceCtorEq,Z2,Zo,Z1,Zx])|(refine a _ ?_;clear a K))
  refine z20 (PC.borrow d rfl 6 (z00 (z3s 5 rfl (z00 (z13 _ 2 rfl (z00 (z0b (e:=27) 1 ?_ z0p (z04 _)) (z00 (z2n (e:=24) 2 ?_ zic (z0e 1 (z0g _))) (z00 (z2n (e:=232) 2 ?_ zrj (z0e 1 rfl)) z0i)))) (z00 (z13 _ 2 rfl (z00 (z2n (e:=4) 2 ?_ zk4 (z0e 1 rfl)) z0i)) (z00 (z13 _ 2 rfl (z00 (z0b (e:=27) 1 ?_ z0p (z04 _)) z0i)) (z00 (z13 _ 2 rfl (z00 (z2n (e:=24) 2 ?_ zic (z0e 1 (z0g _))) z0i)) z0i))))) z0i)) ?_
  all_goals try(focus ((simp(disch:=omega)only[go_sem,Z0]);done))
  (try(simp(disch:=omega)only[go_sem,Z0]));repeat'(first|refine nxt ?_|((first|refine zqh fun K a=>?_|refine zqs (k) ?_);simp(disch:=omega)only[go_sem,Z0,↓reduceIte,Z2,Z1])|(refine zqd _ rfl ?_ ?_<;>intro b<;>(first|(cases b;done)|((try omega))))|refine zqu (by(simp(disch:=omega)only[go_sem,Z0,↓reduceIte,Z1]);rfl) rfl ?_|(refine a _ ?_;clear a K))
  refine z06 ?_ (XY _);simp only[pureD,pureD.pureL,z04,Z3]
 ·rw[if_neg h]
  repeat'(first|((first|refine zqh fun K a=>?_|refine zqs (j) ?_);simp(disch:=omega)only[go_sem,Z0,↓reduceIte,reduceCtorEq,Z2,Zo,Z1,Zx])|(refine a _ ?_;clear a K))
  refine z20 (PC.borrow d rfl 6 (z00 (z3s 5 rfl (z00 (z13 _ 2 rfl (z00 (z0b (e:=27) 1 ?_ z0p (z04 _)) (z00 (z2n (e:=24) 2 ?_ zic (z0e 1 (z0g _))) (z00 (z2n (e:=232) 2 ?_ zrj (z0e 1 rfl)) z0i)))) (z00 (z13 _ 2 rfl (z00 (z2n (e:=4) 2 ?_ zk4 (z0e 1 rfl)) z0i)) (z00 (z13 _ 2 rfl (z00 (z0b (e:=27) 1 ?_ z0p (z04 _)) z0i)) (z00 (z13 _ 2 rfl (z00 (z2n (e:=24) 2 ?_ zic (z0e 1 (z0g _))) z0i)) z0i))))) z0i)) ?_
  all_goals try(focus ((simp(disch:=omega)only[go_sem,Z0]);done))
  (try(simp(disch:=omega)only[go_sem,Z0]));repeat'(first|refine nxt ?_|((refine zqh fun K a=>?_);simp(disch:=omega)only[go_sem,Z0,↓reduceIte,Z2,Z1])|(refine zqd _ rfl ?_ ?_<;>intro b<;>(((try simp only[z05]at b);try omega)))|refine zqu (by(simp(disch:=omega)only[go_sem,Z0,↓reduceIte,Z2,Z1]);rfl) rfl ?_|(refine a _ ?_;clear a K))
  exact z06 rfl (Le.tup ⟨z4c,XY _,trivial⟩)
theorem zq7(q:T)(l:List Wd)(c:l.length<=1000000):PC prog 195 [z0o q,.rptr (z0f l)] (z0o (q.setWords l)):=by
 have b:=zf5 l c;refine z14 5 (by simp only[pureD.pureL,z02,z0g,pureD,Z3]) (z02 _) (zqzj [] func195 rfl (by decide+kernel) rfl ?_);rw[show Tryz.f195.results.toList=[.cell 3 27] from rfl];rw[show z0o q=.agg _ from by rw[z0o,z0n]]
 repeat'(first|((first|refine zqh fun K a=>?_|refine zcx (b) ?_);simp(disch:=omega)only[go_sem,Z0,↓reduceIte,reduceCtorEq,Z2,Z1,Zx,z0f,zjp,Zt,Zq])|refine nxt ?_|refine zqu (by(simp(disch:=omega)only[go_sem,Z0,↓reduceIte,Z2,Z1]);rfl) rfl ?_|(refine a _ ?_;clear a K))
 rw[z0o,z0n];refine z3j (z6j 4 (by simp only[pureD.pureL,pureD,Y2,Y3]) (z00 (z0e 3 rfl) (z00 (z0e 3 rfl) (z00 (z0e 3 rfl) (z00 (z0e 3 rfl) (z00 (z0e 3 rfl) (z00 (z0e 3 (z0g _)) (z00 (z1j (f:=z1p) (l:=l) 2 rfl ?_ z64 z7d (fun _=>rfl) (fun _=>rfl)) (z00 (z0e 3 (z1g _)) z0i)))))))));simp(disch:=omega)only[go_sem,Z0]
theorem ztu(u:T)(k:szB u=true)(h:cntT u<=1000000)(i:depT u<=1000000)(id:Idv)(l:List Wd)(c:l.length<=1000000)(m:∀w∈l,w.text.size<=maxLen) :
  PC prog 112 [z0o u,z0z id,z0f l] (.tup [z0o (if z4o u id l=0 then z10 id (fun q=>q.setWords l) u else T.zero),.int .i64 (z4o u id l)]):=by
 have f:=zw7 u k h i id l c m (fun q=>q.setWords l) (g:=195) (cp:=[.rptr (z0f l)]) (by simp only[pureD.pureL,z0g,pureD,Z3]) (fun q=>zq7 q l c);refine z14 3 (by simp only[pureD.pureL,z02,z0g,Z3];rfl) (by simp only[pureD.pureL,z02,pureD,Z3]) (zqzj [] func112 rfl (by decide+kernel) rfl ?_);rw[show Tryz.f112.results.toList=[.cell 6 27,.tmp 7] from rfl];refine z33 fun K a=>?_;simp(disch:=omega)only[go_sem,Z0,Z2];refine a _ _ (zwk (b:=2) (j:=5) (e:=24) (cs:=[z0f l]) (d:=z0f l) (by(simp(disch:=omega)only[go_sem,Z0,Z2])) (.inl rfl) (z0g _) (by(simp(disch:=omega)only[go_sem,Z0,Z2]))) ?_;clear a K
 repeat'(first|((first|refine zqh fun K a=>?_|refine zqs (f) ?_);simp(disch:=omega)only[go_sem,Z0,↓reduceIte,Z2,Z1,z0f])|refine nxt ?_|refine zqu (by(simp(disch:=omega)only[go_sem,Z0,↓reduceIte,Z1]);rfl) rfl ?_|(refine a _ ?_;clear a K))
 refine z06 ?_ (XY _);simp only[pureD,pureD.pureL,z04,Z3]
theorem zla(q:T)(l:List Wd)(c:l.length<=1000000):PC prog 192 [z0o q,.rptr (z0f l)] (z0o (q.setHead l)):=by
 have b:=zf5 l c;refine z14 5 (by simp only[pureD.pureL,z02,z0g,pureD,Z3]) (z02 _) (zqzj [] func192 rfl (by decide+kernel) rfl ?_);rw[show Tryz.f192.results.toList=[.cell 3 27] from rfl];rw[show z0o q=.agg _ from by rw[z0o,z0n]]
 repeat'(first|((first|refine zqh fun K a=>?_|refine zcx (b) ?_);simp(disch:=omega)only[go_sem,Z0,↓reduceIte,reduceCtorEq,Z2,Z1,Zx,z0f,zjp,Zt,Zq])|refine nxt ?_|refine zqu (by(simp(disch:=omega)only[go_sem,Z0,↓reduceIte,Z2,Z1]);rfl) rfl ?_|(refine a _ ?_;clear a K))
 rw[z0o,z0n];refine z3j (z6j 4 (by simp only[pureD.pureL,pureD,Y2,Y3]) (z00 (z0e 3 rfl) (z00 (z0e 3 rfl) (z00 (z0e 3 rfl) (z00 (z0e 3 rfl) (z00 (z0e 3 rfl) (z00 (z1j (f:=z1p) (l:=l) 2 rfl ?_ z64 z7d (fun _=>rfl) (fun _=>rfl)) (z00 (z0e 3 (z0g _)) (z00 (z0e 3 (z1g _)) z0i)))))))));simp(disch:=omega)only[go_sem,Z0]
theorem znm(u:T)(k:szB u=true)(h:cntT u<=1000000)(i:depT u<=1000000)(id:Idv)(l:List Wd)(c:l.length<=1000000)(m:∀w∈l,w.text.size<=maxLen) :
  PC prog 108 [z0o u,z0z id,z0f l] (.tup [z0o (if z4o u id l=0 then z10 id (fun q=>q.setHead l) u else T.zero),.int .i64 (z4o u id l)]):=by
 have f:=zw7 u k h i id l c m (fun q=>q.setHead l) (g:=192) (cp:=[.rptr (z0f l)]) (by simp only[pureD.pureL,z0g,pureD,Z3]) (fun q=>zla q l c);refine z14 3 (by simp only[pureD.pureL,z02,z0g,Z3];rfl) (by simp only[pureD.pureL,z02,pureD,Z3]) (zqzj [] func108 rfl (by decide+kernel) rfl ?_);rw[show Tryz.f108.results.toList=[.cell 6 27,.tmp 7] from rfl];refine z33 fun K a=>?_;simp(disch:=omega)only[go_sem,Z0,Z2];refine a _ _ (zwk (b:=2) (j:=5) (e:=24) (cs:=[z0f l]) (d:=z0f l) (by(simp(disch:=omega)only[go_sem,Z0,Z2])) (.inl rfl) (z0g _) (by(simp(disch:=omega)only[go_sem,Z0,Z2]))) ?_;clear a K
 repeat'(first|((first|refine zqh fun K a=>?_|refine zqs (f) ?_);simp(disch:=omega)only[go_sem,Z0,↓reduceIte,Z2,Z1,z0f])|refine nxt ?_|refine zqu (by(simp(disch:=omega)only[go_sem,Z0,↓reduceIte,Z1]);rfl) rfl ?_|(refine a _ ?_;clear a K))
 refine z06 ?_ (XY _);simp only[pureD,pureD.pureL,z04,Z3]
namespace Tr
end Tr
namespace Tr
end Tr
namespace Tr
end Tr
namespace Tr
def zoa(b p:T)(a:Idv)(x:T):Bool:=decide (64<=p.kids.length \/ 8<(z3i a b).length+1+depT x)
def z7r(u:T)(id a:Idv)(i:Int):Int :=
 if standsT u=false then 1 else
 if (z07 id u).2=false \/ (z07 a u).2=false then 4 else
 if u.id=id \/ (z07 a (z07 id u).1).2=true then 9 else
 if z1h (z07 a (z0q id u)).1.kind (z07 id u).1.kind=false then 9 else
 if i<0 \/ ((z07 a (z0q id u)).1.kids.length:Int)<i then 3 else
 if z2u (z07 a (z0q id u)).1.kids (z07 id u).1.kind (z07 id u).1.label=true then 10 else
 if zoa (z0q id u) (z07 a (z0q id u)).1 a (z07 id u).1=true then 6 else 0
theorem zca{u:T}{id a:Idv}{i:Int}(h:z7r u id a i=0):standsT u=true/\id∈idsT u/\a∈idsT u/\¬u.id=id/\a∉idsT (z07 id u).1/\z4q (z0q id u) a i (z07 id u).1=0:=by
 unfold z7r at h;split at h
 ·cases h
 rename_i g;split at h
 ·cases h
 rename_i q;split at h
 ·cases h
 rename_i r;split at h
 ·cases h
 rename_i j;split at h
 ·cases h
 rename_i G;split at h
 ·cases h
 rename_i k;split at h
 ·cases h
 rename_i f;simp only[not_or,Zi,ZI]at g q r j k f;obtain⟨c,d⟩:=q;obtain⟨e,b⟩:=r;rw[z1y,decide_eq_true_eq]at c d;rw[z1y,decide_eq_false_iff_not]at b;obtain⟨p,n,x,B,v,C,w,y,z,E,F,A,s,t,l⟩:=z6t g e c;rw[v]at b j k f⊢;simp only at b j k f⊢;have o:a∈idsT (z0q id u):=(l a d).resolve_left b;have H:cntT u<=1024:=((z18 u).1 g).2.2.1;unfold zoa at f;rw[decide_eq_false_iff_not]at f;refine⟨g,c,d,e,b,?_⟩;obtain⟨m,rfl⟩:=Yu (show 0<=i by omega);exact zda w y z o j (by omega) k (by omega) (by omega) (by omega) A
theorem zfl{u x:T}{id a:Idv}{i:Int}(f:standsT u=true)(g:z07 id u=(x,true))(h:a∈idsT u)(j:¬u.id=id)(k:a∉idsT x)(l:z4q (z0q id u) a i x=0):z7r u id a i=0:=by
 obtain⟨⟨s,t,v,p,q,r,w,y,z,o⟩,b,n,rfl,c⟩:=z9d l;have d:=c _ (z4r p);have m:(z07 a (z0q id u)).1.id=a:=by
  obtain⟨_,_,e,_,_⟩:=focus a _ b
  exact e
 have d:=d m;unfold z7r;rw[if_neg (by rw[f];simp),g];simp only;rw[ if_neg (by rw[z1y,decide_eq_true h];simp),if_neg (by rw[z1y,decide_eq_false k];simp[j]),if_neg (by rw[q];simp),if_neg (by omega),if_neg (by rw[r];simp),if_neg];unfold zoa;rw[decide_eq_true_eq];omega
theorem zsa{u:T}{id a:Idv}(c:standsT u=true)(g:id∈idsT u)(d:a∈idsT u)(e:¬u.id=id)(b:a∉idsT (z07 id u).1):(z07 a (z0q id u)).1.kind=(z07 a u).1.kind:=by
 have:=zfr u (z1f c) e d (fun y f=>by rw[f]at b;exact b);rw[this];exact(z4j id _).2.1
end Tr
theorem pc_Move1(u:T)(c:szB u=true)(d:cntT u<=1000000)(e:depT u<=1000000):PC prog 181 [.rptr (z0o u)] (.bool (!standsT u)):=by
 have b:=z9u u c (by omega) (by omega);refine z14 1 (by simp only[pureD.pureL,z02,pureD,Z3]) rfl (zqzj [] func181 rfl (by decide+kernel) rfl ?_)
 repeat'(first|((first|refine zqh fun K a=>?_|refine zqs (b) ?_);simp(disch:=omega)only[go_sem,Z0,↓reduceIte,Z2])|refine nxt ?_|refine zqU ?_|(refine a _ ?_;clear a K))
 exact z01 rfl
theorem pc_Move2(u:T)(f:szB u=true)(i:cntT u<=1000000)(j:depT u<=1000000)(id a:Idv):PC prog 182 [.rptr (z0o u),.rptr (z0z id),.rptr (z0z a)] (.bool (!(z07 id u).2 || !(z07 a u).2)):=by
 have g:=zr4 u (z7o u f) (by omega) id;have h:=zr4 u (z7o u f) (by omega) a;refine z14 1 (by simp only[pureD.pureL,z02,pureD];rfl) rfl (zqzj [] func182 rfl (by decide+kernel) rfl ?_)
 repeat'(first|((first|refine zqh fun K e=>?_|refine zqs (g) ?_|refine zqs (h) ?_);simp(disch:=omega)only[go_sem,Z0,↓reduceIte,Z2])|refine nxt ?_|refine zqU ?_|(refine e _ ?_;clear e K)|(refine zqf (fun d=>?_) (fun d=>?_)<;>(have b:=d;try simp only[z05]at b)<;>((have c:(_:Bool)=_:=b);simp(disch:=omega)only[go_sem,Z0,↓reduceIte,Z2,c];clear d c;try omega)))
 all_goals exact z01 (by simp[b])
theorem pc_Move3(u p x:T)(h:szB u=true)(i:szB x=true)(cp:p.kids.length<=1000000)(j:depT u<=1000000)(dx:depT x<=1000000)(a:Idv):PC prog 183 [.rptr (z0o p),.rptr (z0o u),.rptr (z0z a),.rptr (z0o x)] (.bool (zoa u p a x)):=by
 have f:=zwe u (z7o u h) (by omega) a;have g:=znz x (zbx x i) (by omega);have k:=zeg a u;refine z14 1 (by simp only[pureD.pureL,z02,pureD,Z3];rfl) rfl (zqzj [3000006,3000010,3000011,5000012,3000014,5000015] func183 rfl (by decide+kernel) rfl ?_)
 repeat'(first|((first|refine zqh fun K d=>?_|refine zqe (by decide+kernel) fun K d=>?_|refine zqt (f) ?_|refine zqt (g) ?_);simp(disch:=omega)only[go_sem,Z0,Zk,↓reduceIte,reduceCtorEq,Z2,z0l])|refine nxt ?_|refine zqU ?_|(refine d _ ?_;clear d K)|(refine zqf (fun e=>?_) (fun e=>?_)<;>(have b:=e;try simp only[z05]at b)<;>((first|have c:=eq_false b|have c:=eq_true b);simp(disch:=omega)only[go_sem,Z0,Zk,↓reduceIte,Z2,c];clear e c;try omega)))
 ·exact z01 (decide_eq_decide.2 (by omega))
 ·exact z01 (decide_eq_true (by omega)).symm
theorem pc_Move4(p:T)(i:Int):PC prog 184 [.rptr (.int .i64 i),.rptr (z0o p)] (.bool (decide (i<0) ||decide ((p.kids.length:Int)<i))):=by
 refine z14 1 (by simp only[pureD.pureL,z02,pureD,Z3]) rfl (zqzj [] func184 rfl (by decide+kernel) rfl ?_)
 repeat'(first|((refine zqh fun K d=>?_);simp(disch:=omega)only[go_sem,Z0,↓reduceIte,Z2])|refine nxt ?_|refine zqU ?_|(refine d _ ?_;clear d K)|(refine zqf (fun c=>?_) (fun c=>?_)<;>(have a:=c;try simp only[z05]at a)<;>((first|have b:=eq_false a|have b:=eq_true a);simp(disch:=omega)only[go_sem,Z0,↓reduceIte,reduceCtorEq,Z2,b,z0l];clear c b;try omega)))
 all_goals exact z01 (by simp[a])
theorem pc_Move5(p x:T)(c:szB p=true):PC prog 185 [.rptr (z0o p),.rptr (z0o x)] (.bool (z2u p.kids x.kind x.label)):=by
 have b:=znr p.kids (z79 c).1 x.kind x.label;refine z14 1 (by simp only[pureD.pureL,z02,pureD,Z3]) rfl (zqzj [] func185 rfl (by decide+kernel) rfl ?_)
 repeat'(first|((first|refine zqh fun K a=>?_|refine zqs (b) ?_);simp(disch:=omega)only[go_sem,Z0,↓reduceIte,reduceCtorEq,Z2,z0l])|refine nxt ?_|refine zqU ?_|(refine a _ ?_;clear a K))
 exact z01 rfl
theorem zus(u:T)(id a:Idv)(d e:FuncId)(b c:List D):z9o [(d,b,1,!standsT u),(e,c,4,!(z07 id u).2 || !(z07 a u).2)]=(if standsT u=false then 1 else if (z07 id u).2=false \/ (z07 a u).2=false then 4 else 0):=by
 cases f:standsT u
 ·rw[if_pos rfl];rfl
 rw[if_neg (by simp),ZU,z65];cases g:(z07 id u).2
 ·rw[if_pos (.inl rfl)];rfl
 cases h:(z07 a u).2
 ·rw[if_pos (.inr rfl)];rfl
 ·rw[if_neg (by simp)];rfl
theorem zzp(b p x:T)(a:Idv)(i:Int)(g h j:FuncId)(d e f:List D):z9o [(g,d,3,decide (i<0) ||decide ((p.kids.length:Int)<i)),(h,e,10,z2u p.kids x.kind x.label),(j,f,6,zoa b p a x)] =
  (if i<0 \/ (p.kids.length:Int)<i then 3 else if z2u p.kids x.kind x.label=true then 10 else if zoa b p a x=true then 6 else 0):=by
 by_cases c:i<0 \/ (p.kids.length:Int)<i
 ·rw[if_pos c,show (decide (i<0) ||decide ((p.kids.length:Int)<i))=true from by simpa using c];rfl
 rw[if_neg c,show (decide (i<0) ||decide ((p.kids.length:Int)<i))=false from by simpa using c,z65];cases l:z2u p.kids x.kind x.label
 ·rw[if_neg (by simp),z65];cases k:zoa b p a x
  ·rw[if_neg (by simp)];rfl
  ·rw[if_pos rfl];rfl
 ·rw[if_pos rfl];rfl
theorem pc_Move(u:T)(t:szB u=true)(Z:cntT u<=1000000)(I:depT u<=1000000)(id a:Idv)(i:Int) :
  PC prog 103 [z0o u,z0z id,z0z a,.int .i64 i] (.tup [z0o (if z7r u id a i=0 then z10 a (z4u i.toNat (z07 id u).1) (z0q id u) else T.zero),.int .i64 (z7r u id a i)]):=by
 have U:=z9g id u t;have B:=zol (id:=id) u t;have dr:depT (z0q id u)<=depT u:=zx9 u;have dx:depT (z07 id u).1<=depT u:=dep_find id u;have hp:=z9g a (z0q id u) B;have G:=z8q u (z7o u t) (by omega) id;have H:=z8q u (z7o u t) (by omega) a;have C:=zr4 (z07 id u).1 (z7o _ U) (by omega) a;have E:=zas (z07 a u).1.kind (z07 id u).1.kind;have Y:=z8q (z0q id u) (z7o _ B) (by omega) a
 have f:=zcs [(181,[.rptr (z0o u)],1,!standsT u),(182,[.rptr (z0o u),.rptr (z0z id),.rptr (z0z a)],4,!(z07 id u).2 || !(z07 a u).2)]
  (by simp) (by
   intro c d;simp only[Z7,ZP,or_false]at d;rcases d with rfl|rfl
   ·exact⟨by simp only[pureD.pureL,z02,pureD,Z3],pc_Move1 u t Z I⟩
   ·exact⟨by simp only[pureD.pureL,z02,pureD];rfl,pc_Move2 u t Z I id a⟩)
 have x:=zcs [(184,[.rptr (.int .i64 i),.rptr (z0o (z07 a (z0q id u)).1)],3,decide (i<0) ||decide (((z07 a (z0q id u)).1.kids.length:Int)<i)),(185,[.rptr (z0o (z07 a (z0q id u)).1),.rptr (z0o (z07 id u).1)],10,z2u (z07 a (z0q id u)).1.kids (z07 id u).1.kind (z07 id u).1.label),
   (183,[.rptr (z0o (z07 a (z0q id u)).1),.rptr (z0o (z0q id u)),.rptr (z0z a),.rptr (z0o (z07 id u).1)],6,zoa (z0q id u) (z07 a (z0q id u)).1 a (z07 id u).1)]
  (by simp) (by
   intro c d;simp only[Z7,ZP,or_false]at d;rcases d with rfl|rfl|rfl
   ·exact⟨by simp only[pureD.pureL,z02,pureD,Z3],pc_Move4 _ i⟩
   ·exact⟨by simp only[pureD.pureL,z02,pureD,Z3],pc_Move5 _ _ hp⟩
   ·exact⟨by simp only[pureD.pureL,z02,pureD,Z3];rfl,pc_Move3 _ _ _ B U (z79 hp).1 (by omega) (by omega) a⟩)
 rw[zus]at f;rw[zzp]at x;refine z14 3 (by simp only[pureD.pureL,z02,pureD,Z3];rfl) (by simp only[pureD.pureL,z02,pureD,Z3]) (zqzj [3000081,3000082,3000083,3000084,5000085,5000086] func103 rfl (by decide+kernel) rfl ?_);rw[show Tryz.f103.results.toList=[.cell 8 27,.tmp 9] from rfl]
 by_cases j:standsT u=false
 ·rw[if_pos j]at f;rw[show z7r u id a i=1 from by unfold z7r;rw[if_pos j],if_neg (by decide)]
  repeat'(first|((refine zqh fun K b=>?_);simp(disch:=omega)only[go_sem,Z0,↓reduceIte,reduceCtorEq,Z2,Zo,Z1])|(refine b _ ?_;clear b K))
  refine z20 (PC.borrow f rfl 6 (z00 (z3s 5 rfl (z00 (z13 _ 2 rfl (z00 (z0b (e:=27) 1 ?_ z0p (z04 _)) z0i)) (z00 (z13 _ 2 rfl (z00 (z0b (e:=27) 1 ?_ z0p (z04 _)) (z00 (z0b (e:=23) 1 ?_ z25 rfl) (z00 (z0b (e:=23) 1 ?_ z25 rfl) z0i)))) z0i))) z0i)) ?_
  all_goals try(focus ((simp(disch:=omega)only[go_sem,Z0,z0a]);done))
  (try(simp(disch:=omega)only[go_sem,Z0]));repeat'(first|refine nxt ?_|((refine zqh fun K b=>?_);simp(disch:=omega)only[go_sem,Z0,↓reduceIte,Z2,Z1,YP])|(refine zqd _ rfl ?_ ?_<;>intro d<;>(first|(cases d;done)|((try omega))))|refine zqu (by(simp(disch:=omega)only[go_sem,Z0,↓reduceIte,Z2,Z1]);rfl) rfl ?_|(refine b _ ?_;clear b K))
  exact z06 rfl (Le.tup ⟨z4c,XY _,trivial⟩)
 rw[if_neg j]at f
 by_cases y:(z07 id u).2=false \/ (z07 a u).2=false
 ·rw[if_pos y]at f;rw[show z7r u id a i=4 from by unfold z7r;rw[if_neg j,if_pos y],if_neg (by decide)]
  repeat'(first|((refine zqh fun K b=>?_);simp(disch:=omega)only[go_sem,Z0,↓reduceIte,reduceCtorEq,Z2,Zo,Z1])|(refine b _ ?_;clear b K))
  refine z20 (PC.borrow f rfl 6 (z00 (z3s 5 rfl (z00 (z13 _ 2 rfl (z00 (z0b (e:=27) 1 ?_ z0p (z04 _)) z0i)) (z00 (z13 _ 2 rfl (z00 (z0b (e:=27) 1 ?_ z0p (z04 _)) (z00 (z0b (e:=23) 1 ?_ z25 rfl) (z00 (z0b (e:=23) 1 ?_ z25 rfl) z0i)))) z0i))) z0i)) ?_
  all_goals try(focus ((simp(disch:=omega)only[go_sem,Z0,z0a]);done))
  (try(simp(disch:=omega)only[go_sem,Z0]));repeat'(first|refine nxt ?_|((refine zqh fun K b=>?_);simp(disch:=omega)only[go_sem,Z0,↓reduceIte,Z2,Z1,YP])|(refine zqd _ rfl ?_ ?_<;>intro d<;>(first|(cases d;done)|((try omega))))|refine zqu (by(simp(disch:=omega)only[go_sem,Z0,↓reduceIte,Z2,Z1]);rfl) rfl ?_|(refine b _ ?_;clear b K))
  exact z06 rfl (Le.tup ⟨z4c,XY _,trivial⟩)
 rw[if_neg y]at f;rw[Zi]at j;simp only[not_or,Zi]at y;obtain⟨p,r⟩:=y;have W:id∈idsT u:=by rw[z1y,decide_eq_true_eq]at p;exact p
 have m2:a∈idsT u:=by rw[z1y,decide_eq_true_eq]at r;exact r
 have J:z7r u id a i=(if u.id=id \/ (z07 a (z07 id u).1).2=true then 9 else
   if z1h (z07 a (z0q id u)).1.kind (z07 id u).1.kind=false then 9 else
   if i<0 \/ ((z07 a (z0q id u)).1.kids.length:Int)<i then 3 else
   if z2u (z07 a (z0q id u)).1.kids (z07 id u).1.kind (z07 id u).1.label=true then 10 else
   if zoa (z0q id u) (z07 a (z0q id u)).1 a (z07 id u).1=true then 6 else 0):=by
  unfold z7r;rw[if_neg (by rw[j];simp),if_neg (by rw[p,r];simp)]
 have s:decide (id=u.id)=decide (u.id=id):=decide_eq_decide.2 ⟨fun h=>h.symm,fun h=>h.symm⟩
 by_cases F:u.id=id \/ (z07 a (z07 id u).1).2=true \/ z1h (z07 a u).1.kind (z07 id u).1.kind=false
 ·have e9:z7r u id a i=9:=by
   rw[J]
   by_cases v:u.id=id \/ (z07 a (z07 id u).1).2=true
   ·rw[if_pos v]
   ·rw[if_neg v];have h5:z1h (z07 a u).1.kind (z07 id u).1.kind=false:=by
     rcases F with h|h|h
     ·exact(v (.inl h)).elim
     ·exact(v (.inr h)).elim
     ·exact h
    have N:=zsa j W m2 (fun e=>v (.inl e)) (fun O=>v (.inr (by rw[z1y,decide_eq_true O])));rw[N,if_pos h5]
  rw[e9,if_neg (by decide)]
  repeat'(first|((refine zqh fun K b=>?_);simp(disch:=omega)only[go_sem,Z0,↓reduceIte,reduceCtorEq,Z2,Zo,Z1])|(refine b _ ?_;clear b K))
  refine z20 (PC.borrow f rfl 6 (z00 (z3s 5 rfl (z00 (z13 _ 2 rfl (z00 (z0b (e:=27) 1 ?_ z0p (z04 _)) z0i)) (z00 (z13 _ 2 rfl (z00 (z0b (e:=27) 1 ?_ z0p (z04 _)) (z00 (z0b (e:=23) 1 ?_ z25 rfl) (z00 (z0b (e:=23) 1 ?_ z25 rfl) z0i)))) z0i))) z0i)) ?_
  all_goals try(focus ((simp(disch:=omega)only[go_sem,Z0,z0a]);done))
  (try(simp(disch:=omega)only[go_sem,Z0]));repeat'(first|refine nxt ?_|((first|refine zqh fun K b=>?_|refine zqs (G) ?_|refine zqs (H) ?_|refine zqs (C) ?_|refine zqs (E) ?_);simp(disch:=omega)only[go_sem,Z0,↓reduceIte,reduceCtorEq,Z2,Z1,s])|(refine zqd _ rfl ?_ ?_<;>intro d<;>(first|(cases d;done)|((try simp only[z05]at d);try omega)))|refine zqu (by(simp(disch:=omega)only[go_sem,Z0,↓reduceIte,Z2,Z1]);rfl) rfl ?_|(refine b _ ?_;clear b K)|(refine zqf (fun L=>?_) (fun L=>?_)<;>(have m:=L;try simp only[z05]at m)<;>((first|have o:(_:Bool)=_:=m|have o:=eq_false m|have o:=eq_true m);simp(disch:=omega)only[go_sem,Z0,↓reduceIte,reduceCtorEq,Z2,Z1,o];clear L o;try omega)))
  ·exact z06 rfl (Le.tup ⟨z4c,XY _,trivial⟩)
  ·exfalso;rcases F with h|h|h
   ·exact ‹¬u.id=id› h
   ·rw[‹(z07 a (z07 id u).1).2=false›]at h;cases h
   ·rw[‹z1h (z07 a u).1.kind (z07 id u).1.kind=true›]at h;cases h
  all_goals exact z06 rfl (Le.tup ⟨z4c,XY _,trivial⟩)
 simp only[not_or,ZI,Zi]at F;obtain⟨k,l,z⟩:=F;have n1:a∉idsT (z07 id u).1:=by rw[z1y,decide_eq_false_iff_not]at l;exact l
 have N:=zsa j W m2 k n1;rw[if_neg (by simp[k,l]),if_neg (by rw[N,z];simp)]at J;rw[<-J]at x;have X:=zjn u t I id j W k;have A:decide (id=u.id)=false:=decide_eq_false fun e=>k e.symm;rw[l]at C;rw[z]at E
 by_cases Q:z7r u id a i=0
 ·obtain⟨_,_,_,_,_,R⟩:=zca Q;obtain⟨P,O,n,rfl,hn⟩:=z9d R;have c9:=pc_put n (z07 id u).1;have w:=zju (z0q id u) B a (z4u n (z07 id u).1) (g:=262) (cap:=[.rptr (.int .i64 n),.rptr (z0o (z07 id u).1)]) (by simp only[pureD.pureL,z02,pureD,Z3]) (fun q hq M=>pc_put1 n _ U q (z6m _ B q hq) (hn q hq M));rw[(show (atR a (z4u n (z07 id u).1) (z0q id u)).1=z10 a (z4u n (z07 id u).1) (z0q id u) from by rw[zg8 _ (z1f P.1) O])]at w;rw[Q]at x⊢;rw[if_pos rfl,YE]
  repeat'(first|((refine zqh fun K b=>?_);simp(disch:=omega)only[go_sem,Z0,↓reduceIte,reduceCtorEq,Z2,Zo,Z1])|(refine b _ ?_;clear b K))
  refine z20 (PC.borrow f rfl 6 (z00 (z3s 5 rfl (z00 (z13 _ 2 rfl (z00 (z0b (e:=27) 1 ?_ z0p (z04 _)) z0i)) (z00 (z13 _ 2 rfl (z00 (z0b (e:=27) 1 ?_ z0p (z04 _)) (z00 (z0b (e:=23) 1 ?_ z25 rfl) (z00 (z0b (e:=23) 1 ?_ z25 rfl) z0i)))) z0i))) z0i)) ?_
  all_goals try(focus ((simp(disch:=omega)only[go_sem,Z0,z0a]);done))
  (try(simp(disch:=omega)only[go_sem,Z0]));repeat'(first|refine nxt ?_|((first|refine zqh fun K b=>?_|refine zqs (G) ?_|refine zqs (H) ?_|refine zqs (C) ?_|refine zqs (E) ?_|refine zqs (X) ?_|refine zqs (Y) ?_);simp(disch:=omega)only[go_sem,Z0,↓reduceIte,reduceCtorEq,Z2,Zo,Z1,A])|(refine zqd _ rfl ?_ ?_<;>intro d<;>(first|(cases d;done)|((try omega))))|(refine b _ ?_;clear b K))
  refine z20 (PC.borrow x rfl 6 (z00 (z3s 5 rfl (z00 (z13 _ 2 rfl (z00 (z2n (e:=3) 2 ?_ z7p (z0e 1 rfl)) (z00 (z0b (e:=27) 1 ?_ z0p (z04 _)) z0i))) (z00 (z13 _ 2 rfl (z00 (z0b (e:=27) 1 ?_ z0p (z04 _)) (z00 (z0b (e:=27) 1 ?_ z0p (z04 _)) z0i))) (z00 (z13 _ 2 rfl (z00 (z0b (e:=27) 1 ?_ z0p (z04 _)) (z00 (z0b (e:=27) 1 ?_ z0p (z04 _)) (z00 (z0b (e:=23) 1 ?_ z25 rfl) (z00 (z0b (e:=27) 1 ?_ z0p (z04 _)) z0i))))) z0i)))) z0i)) ?_
  all_goals try(focus ((simp(disch:=omega)only[go_sem,Z0,z0a]);done))
  (try(simp(disch:=omega)only[go_sem,Z0]));repeat'(first|refine nxt ?_|((first|refine zqh fun K b=>?_|refine zqe (by decide+kernel) fun K b=>?_|refine zqt (c9) ?_|refine zqt (w) ?_);simp(disch:=omega)only[go_sem,Z0,Zk,↓reduceIte,Z2,Z1])|(refine zqd _ rfl ?_ ?_<;>intro d<;>(first|(cases d;done)|((try omega))))|refine zqu (by(simp(disch:=omega)only[go_sem,Z0,↓reduceIte,Z1]);rfl) rfl ?_|(refine b _ ?_;clear b K))
  refine z06 ?_ (XY _);simp only[pureD,pureD.pureL,z04,Z3]
 ·rw[if_neg Q]
  repeat'(first|((refine zqh fun K b=>?_);simp(disch:=omega)only[go_sem,Z0,↓reduceIte,reduceCtorEq,Z2,Zo,Z1])|(refine b _ ?_;clear b K))
  refine z20 (PC.borrow f rfl 6 (z00 (z3s 5 rfl (z00 (z13 _ 2 rfl (z00 (z0b (e:=27) 1 ?_ z0p (z04 _)) z0i)) (z00 (z13 _ 2 rfl (z00 (z0b (e:=27) 1 ?_ z0p (z04 _)) (z00 (z0b (e:=23) 1 ?_ z25 rfl) (z00 (z0b (e:=23) 1 ?_ z25 rfl) z0i)))) z0i))) z0i)) ?_
  all_goals try(focus ((simp(disch:=omega)only[go_sem,Z0,z0a]);done))
  (try(simp(disch:=omega)only[go_sem,Z0]));repeat'(first|refine nxt ?_|((first|refine zqh fun K b=>?_|refine zqs (G) ?_|refine zqs (H) ?_|refine zqs (C) ?_|refine zqs (E) ?_|refine zqs (X) ?_|refine zqs (Y) ?_);simp(disch:=omega)only[go_sem,Z0,↓reduceIte,reduceCtorEq,Z2,Zo,Z1,A])|(refine zqd _ rfl ?_ ?_<;>intro d<;>(first|(cases d;done)|((try omega))))|(refine b _ ?_;clear b K))
  refine z20 (PC.borrow x rfl 6 (z00 (z3s 5 rfl (z00 (z13 _ 2 rfl (z00 (z2n (e:=3) 2 ?_ z7p (z0e 1 rfl)) (z00 (z0b (e:=27) 1 ?_ z0p (z04 _)) z0i))) (z00 (z13 _ 2 rfl (z00 (z0b (e:=27) 1 ?_ z0p (z04 _)) (z00 (z0b (e:=27) 1 ?_ z0p (z04 _)) z0i))) (z00 (z13 _ 2 rfl (z00 (z0b (e:=27) 1 ?_ z0p (z04 _)) (z00 (z0b (e:=27) 1 ?_ z0p (z04 _)) (z00 (z0b (e:=23) 1 ?_ z25 rfl) (z00 (z0b (e:=27) 1 ?_ z0p (z04 _)) z0i))))) z0i)))) z0i)) ?_
  all_goals try(focus ((simp(disch:=omega)only[go_sem,Z0,z0a]);done))
  (try(simp(disch:=omega)only[go_sem,Z0]));repeat'(first|refine nxt ?_|((refine zqh fun K b=>?_);simp(disch:=omega)only[go_sem,Z0,↓reduceIte,Z2,Z1])|(refine zqd _ rfl ?_ ?_<;>intro d<;>(((try simp only[z05]at d);try omega)))|refine zqu (by(simp(disch:=omega)only[go_sem,Z0,↓reduceIte,Z2,Z1]);rfl) rfl ?_|(refine b _ ?_;clear b K))
  exact z06 rfl (Le.tup ⟨z4c,XY _,trivial⟩)
namespace Tr
theorem take_zero{u x:T}{id:Idv}(a:standsT u=true)(b:z07 id u=(x,true))(c:¬u.id=id):zdd u id=0:=by
 unfold zdd;rw[if_neg (by rw[a];simp),if_neg (by rw[b];simp),if_neg c]
theorem zm2{u:T}{id a:Idv}{m:Nat}(h:z7r u id a m=0):∃(b:Idv) (n:Nat),z3c id u=(b,(n:Int),true) /\
  z3c id (z10 a (z4u m (z07 id u).1) (z0q id u))=(a,(m:Int),true)/\z7r (z10 a (z4u m (z07 id u).1) (z0q id u)) id b n=0 /\
  z10 b (z4u n (z07 id (z10 a (z4u m (z07 id u).1) (z0q id u))).1) (z0q id (z10 a (z4u m (z07 id u).1) (z0q id u)))=u /\
  standsT (z10 a (z4u m (z07 id u).1) (z0q id u))=true/\cntT (z10 a (z4u m (z07 id u).1) (z0q id u))=cntT u:=by
 obtain⟨F,G,P,H,o,d⟩:=zca h;obtain⟨b,n,x,p,v,w,K,L,M,y,z,A,c,s,t⟩:=z6t F H G;rw[v]at d o⊢;simp only at d o⊢;obtain⟨C,q,l,r,_,_,_,_,i,e,f,j,k,_,N,O⟩:=zce d;rw[w]at e f j k;refine⟨b,n,p,j,?_,by rw[f,e];exact z,i,by omega⟩;refine zfl i f ?_ k (fun I=>A b I c) (by rw[e];exact y)
 -- the old a is still there
 have g:b∈idsT (z0q id u):=c;obtain⟨J,R,Q,U,B,_,_,E,_⟩:=zce d;rw[E,z2x,z29,Z8,Zf];rw[B,z2x,z29,Z8]at g;simp only[Za,Z7]at g⊢;rcases g with h|(h|h|h)|h
 ·exact .inl h
 ·exact .inr (.inl (.inl h))
 ·exact .inr (.inl (.inr (.inl h)))
 ·exact .inr (.inl (.inr (.inr (.inr h))))
 ·exact .inr (.inr h)
end Tr
end
section
open Abs Facts Tr
namespace Tr
def zim(t:T):T:=t.setKids []
def zn4(id:Idv)(a b:T):Prop:=∀p∈z0c a,∃c∈z0c b,c.id=p.id/\(p.id≠id->zim c=zim p)/\∀y∈p.kids,∃d∈c.kids,d.id=y.id
theorem z8g:∀u x:T,x∈z0c u->∀y∈z0c x,y∈z0c u:=by
 refine fun u=>z4a (p:=fun u=>∀x:T,x∈z0c u->∀y∈z0c x,y∈z0c u) (fun u d x hx y c=>?_) u;rw[z1l,Z7]at hx;rcases hx with rfl|hx
 ·exact c
 ·obtain⟨k,b,a⟩:=Z5.1 hx;exact z31 b (d k b x a y c)
theorem zg0:∀t:T,(idsT t).Nodup->∀p∈z0c t,∀y∈p.kids,(z3c y.id t).1=p.id:=by
 refine z4a fun t u g p hp y b=>?_;obtain⟨o,q,r⟩:=z77 g;rw[z1l,Z7]at hp;rcases hp with rfl|hp
 ·obtain⟨i,f,rfl⟩:=Zz b;rw[zpi (id:=p.kids[i].id) (t:=p) (i:=i) (fun e=>o _ b (e ▸ z1b _)) f (fun j s h=>(z6a _ _).2 (r i j f h (by omega) _ (z1b _))) rfl]
 ·obtain⟨k,c,a⟩:=Z5.1 hp;obtain⟨i,f,rfl⟩:=Zz c;have d:y.id∈idsT t.kids[i]:=Zl.2 ⟨y,z8g _ p a y (z31 b (z1t y)),rfl⟩;have m:¬t.kids[i].id=y.id:=by
   intro e;have l:=q _ c;have n:∀t:T,(idsT t).Nodup->∀p∈z0c t,∀y∈p.kids,t.id≠y.id:=by
    intro t g p hp y b e;rw[z1c,ZW]at g;refine g.1 ?_;rw[e];rw[z1l,Z7]at hp;rcases hp with rfl|hp
    ·exact Z5.2 ⟨y,b,z1b y⟩
    ·obtain⟨k,c,a⟩:=Z5.1 hp;refine Z5.2 ⟨k,c,Zl.2 ⟨y,?_,rfl⟩⟩;exact z8g k p a y (z31 b (z1t y))
   exact n _ l p a y b e
  rw[parR_in (id:=y.id) (t:=t) (i:=i) (fun e=>o _ c (e ▸ d)) f (fun j s h=>(z6a _ _).2 (r i j f h (by omega) _ d)) m (z4s.2 d)];exact u _ c (q _ c) p a y b
theorem zin(C:Ctx){x y:T}(h:y∈z0c x):y∈z0c (z2s C x):=by
 induction C with
 |hole=>exact h
 |node t l c r a=>exact z31 (t:=z2s (.node t l c r) x) (k:=z2s c x) (by show _∈l++_::r;simp) a
theorem parent_of{t:T}{k:Idv}(b:k∈idsT t)(a:¬t.id=k):∃p∈z0c t,∃y∈p.kids,y.id=k:=by
 obtain⟨C,q,l,x,r,e,c,_⟩:=zjl a b;refine⟨q.setKids (l++x::r),?_,x,by show x∈l++x::r;simp,c⟩;rw[e];exact zin C (z1t _)
theorem z70{id:Idv}{a b:T}(m:zn4 id a b)(n:(idsT a).Nodup)(o:(idsT b).Nodup){k:Idv}(r:k∈idsT a) :
  (z07 k b).2=true/\(k≠id->zim (z07 k a).1=zim (z07 k b).1)/\(¬a.id=k->(z3c k a).1=(z3c k b).1):=by
 obtain⟨p,s,c⟩:=Zl.1 r;obtain⟨G,f,v,w,_⟩:=m p s;have C:=z8s n s c;have l:=z8s o f (v.trans c);refine⟨by rw[l],fun e=>?_,fun B=>?_⟩
 ·rw[C,l];exact(w (by rw[c];exact e)).symm
 ·obtain⟨q,t,y,u,d⟩:=parent_of r B;obtain⟨E,g,x,_,z⟩:=m q t;obtain⟨F,h,A⟩:=z y u;have i:=zg0 a n q t y u;have j:=zg0 b o E g F h;rw[d]at i;rw[A,d]at j;rw[i,j,x]
def zl4:Ctx->Ctx->Ctx
 | .hole,D=>D
 | .node t l c r,D=>.node t l (zl4 c D) r
theorem zio(D:Ctx)(x:T):∀C,z2s (zl4 C D) x=z2s C (z2s D x)
 | .hole=>rfl
 | .node t l c r=>by rw[zl4,z2s,zio D x c,z2s]
theorem zvg(D:Ctx):∀C,z89 (zl4 C D)=z89 C++z89 D
 | .hole=>by simp[zl4,z89]
 | .node t l c r=>by rw[zl4,z89,z89,zvg D c,ZC,Z9]
theorem zos(D:Ctx):∀C,z4b (zl4 C D)=z4b D++z4b C
 | .hole=>by simp[zl4,z4b]
 | .node t l c r=>by rw[zl4,z4b,z4b,zos D c,Z9]
theorem zot{id:Idv}{a b:T}(h:∀p∈z0c a,p∈z0c b):zn4 id a b:=fun p c=>⟨p,h p c,rfl,fun _=>rfl,fun y d=>⟨y,d,rfl⟩⟩
theorem zg1{id:Idv}{a b:T}(n:zn4 id a b)(i:b.id=a.id):∀C,zn4 id (z2s C a) (z2s C b)
 | .hole=>n
 | .node t l c r=>by
  have s:=zg1 n i c;have q:(z2s c b).id=(z2s c a).id:=by
   cases c with
   |hole=>exact i
   |node z w v x=>rfl
  intro p hp;rw[z2s,z1l,Z7]at hp;rcases hp with rfl|hp
  ·refine⟨z2s (.node t l c r) b,z1t _,rfl,fun _=>rfl,fun y d=>?_⟩;have d:y∈l++z2s c a::r:=d;show ∃u∈l++z2s c b::r,u.id=y.id;rcases Za.1 d with h|h
   ·exact⟨y,Zm _ h,rfl⟩
   ·rcases Z7.1 h with rfl|h
    ·exact⟨z2s c b,by simp,q⟩
    ·exact⟨y,Zj _ (Z6 _ h),rfl⟩
  ·have hp:p∈(l++z2s c a::r).flatMap z0c:=hp;rw[Z8,Zf,Za,Za]at hp;have g:∀k∈l++z2s c b::r,∀y∈z0c k,y∈z0c (z2s (.node t l c r) b):=fun k j y d=>z31 (t:=z2s (.node t l c r) b) j d;rcases hp with h|h|h
   ·obtain⟨k,j,f⟩:=Z5.1 h;exact⟨p,g k (Zm _ j) p f,rfl,fun _=>rfl,fun y d=>⟨y,d,rfl⟩⟩
   ·obtain⟨o,m,e⟩:=s p h;exact⟨o,g _ (by simp) o m,e⟩
   ·obtain⟨k,j,f⟩:=Z5.1 h;exact⟨p,g k (Zj _ (Z6 _ j)) p f,rfl,fun _=>rfl,fun y d=>⟨y,d,rfl⟩⟩
theorem keeps_ins{id:Idv}(q x:T)(l r:List T):zn4 id (q.setKids (l++r)) (q.setKids (l++x::r)):=by
 intro p hp;have e:∀k∈l++x::r,∀y∈z0c k,y∈z0c (q.setKids (l++x::r)):=fun k a y b=>z31 (t:=q.setKids (l++x::r)) a b;have c:∀k∈l++r,k∈l++x::r:=fun k a=>by
  rcases Za.1 a with h|h
  ·exact Zm _ h
  ·exact Zj _ (Z6 _ h)
 rw[z1l,Z7]at hp;rcases hp with rfl|hp
 ·exact⟨_,z1t _,rfl,fun _=>rfl,fun y b=>⟨y,c y b,rfl⟩⟩
 ·obtain⟨k,a,d⟩:=Z5.1 hp;exact⟨p,e k (c k a) p d,rfl,fun _=>rfl,fun y b=>⟨y,b,rfl⟩⟩
theorem keeps_own{q a:T}(d:a.id=q.id)(c:a.kids=q.kids):zn4 q.id q a:=by
 intro p hp;rw[z1l,Z7]at hp;rcases hp with rfl|hp
 ·exact⟨a,z1t _,d,fun h=>(h rfl).elim,fun y b=>⟨y,by rw[c];exact b,rfl⟩⟩
 ·refine⟨p,?_,rfl,fun _=>rfl,fun y b=>⟨y,b,rfl⟩⟩;rw[z1l,c];exact Z6 _ hp
theorem zxp(id:Idv):∀u:T,∀p∈z0c (z0q id u),∃q∈z0c u,p=z0q id q:=by
 refine z4a fun u j p g=>?_
 by_cases a:p=z0q id u
 ·exact⟨u,z1t u,a⟩
 ·have c:p∈((u.kids.filter (z8i id)).map (z0q id)).flatMap z0c:=by
   have e:z0c (z0q id u)=z0q id u::((u.kids.filter (z8i id)).map (z0q id)).flatMap z0c:=by
    conv=>lhs;rw[z1l]
    rw[show (z0q id u).kids=(u.kids.filter (z8i id)).map (z0q id) from by rw[z4z];rfl]
   rw[e,Z7]at g;exact g.resolve_left a
  obtain⟨k,h,d⟩:=Z5.1 c;obtain⟨l,b,rfl⟩:=Zl.1 h;have f:=(ZB.1 b).1;obtain⟨q,i,e⟩:=j l f p d;exact⟨q,z31 f i,e⟩
theorem zln(id:Idv)(j:Idv)(u:T):zn4 id (z0q j u) u:=by
 intro p i;obtain⟨q,k,rfl⟩:=zxp j u p i;refine⟨q,k,(z4j j q).1.symm,fun _=>?_,fun y b=>?_⟩
 ·unfold zim;obtain⟨d,e,f,g,h⟩:=z4j j q;unfold T.setKids;rw[d,e,f,g,h]
 ·rw[z4z]at b;obtain⟨c,a,rfl⟩:=Zl.1 b;exact⟨c,(ZB.1 a).1,(z4j j c).1.symm⟩
theorem zg2{C:Ctx}{q a:T}(g:standsT (z2s C q)=true)(e:a.id=q.id)(f:a.kind=q.kind)(b:a.kids=q.kids)(i:z3l a=true)(h:ctxR C (z5r q)->ctxR C (z5r a)):standsT (z2s C a)=true:=by
 rw[z18]at g⊢;obtain⟨d,l,m,n,o,p⟩:=g;rw[z4v]at d;obtain⟨k,j⟩:=zcf C (x:=a) (y:=q) e f;have c:idsT a=idsT q:=by rw[z1c,z1c,e,b]
 have s:depT a=depT q:=by rw[z5w,z5w q,b]
 have r:cntT a=cntT q:=by rw[<-z3q,<-z3q,c]
 refine⟨?_,?_,?_,?_,by rw[k,j];exact o,?_⟩
 ·rw[z4v];refine⟨h d.1,?_⟩;have:=d.2;rw[z42]at this⊢;rw[b,f];simp only[Zb]at this⊢;exact⟨i,this.2⟩
 ·rw[zag]at l⊢;omega
 ·rw[z7c]at m⊢;omega
 ·rw[z2x,c,<-z2x];exact n
 ·rw[z9e,c,<-z9e];exact p
def LRP(u v:T)(id:Idv)(gone:List Idv):Prop:=standsT v=true/\cntT v+gone.length=cntT u/\gone.Nodup /\
 ∀k∈idsT u,(z07 k v).2=(!decide (k∈gone))/\((z07 k v).2=true->k≠id->zim (z07 k u).1=zim (z07 k v).1/\(z3c k u).1=(z3c k v).1)
theorem zxq{u:T}{id:Idv}(h:zdd u id=0):LRP u (z0q id u) id (idsT (z07 id u).1):=by
 obtain⟨i,s,t⟩:=znp h;obtain⟨f,n,x,w,m,y,g,o,z,A,B,p,l,b,c⟩:=z6t i t s;rw[m];refine⟨g,by rw[z3q];exact b,z1f o,fun k v=>?_⟩
 by_cases a:k∈idsT x
 ·have:k∉idsT (z0q id u):=p k a;rw[z1y,decide_eq_false this,decide_eq_true a];exact⟨rfl,fun h=>by cases h⟩
 ·have j:k∈idsT (z0q id u):=(c k v).resolve_left a;rw[z1y,decide_eq_true j,decide_eq_false a];refine⟨rfl,fun _ d=>?_⟩;obtain⟨_,q,r⟩:=z70 (zln id id u) (z1f g) (z1f i) j;refine⟨(q d).symm,?_⟩
  by_cases e:u.id=k
  ·rw[z9r e,z9r (by rw[(z4j id u).1];exact e)]
  ·exact(r (by rw[(z4j id u).1];exact e)).symm
theorem lrp_move{u:T}{id a:Idv}{m:Nat}(h:z7r u id a m=0):LRP u (z10 a (z4u m (z07 id u).1) (z0q id u)) id []:=by
 obtain⟨v,U,h3,W,N,A⟩:=zca h;obtain⟨G,n,x,d1,t,R,H,I,d6,d7,d8,d9,P,Q,s⟩:=z6t v W U;rw[t]at A N⊢;simp only at A N⊢;obtain⟨C,q,l,r,J,e2,e3,K,L,f2,M,f4,f5,_,f7,f8⟩:=zce A;refine⟨L,by simp;omega,YL,fun k Y=>?_⟩;have c:=z1f L;have E:x∈z0c u:=by have:=z4r (id:=id) (u:=u) (by rw[t]);rw[t]at this;exact this
 have F:x∈z0c (z10 a (z4u m x) (z0q id u)):=by have:=z4r (id:=x.id) (u:=z10 a (z4u m x) (z0q id u)) (by rw[M]);rw[M]at this;exact this
 by_cases B:k∈idsT x
 ·obtain⟨O,g,i⟩:=z70 (id:=id) (zot fun p w=>z8g u x E p w) (z1f I) (z1f v) B;obtain⟨b1,j,o⟩:=z70 (id:=id) (zot fun p w=>z8g _ x F p w) (z1f I) c B;refine⟨by rw[b1];rfl,fun _ b=>⟨(g b).symm.trans (j b),?_⟩⟩;have d:¬x.id=k:=fun e=>b (e.symm.trans R);exact(i d).symm.trans (o d)
 ·have d:k∈idsT (z0q id u):=(s k Y).resolve_left B;obtain⟨O,g,i⟩:=z70 (zln id id u) (z1f H) (z1f v) d;have X:zn4 id (z0q id u) (z10 a (z4u m x) (z0q id u)):=by
   have:=zg1 (id:=id) (keeps_ins q x l r) rfl C;rw[<-J,<-K]at this;exact this
  obtain⟨b1,j,o⟩:=z70 X (z1f H) c d;refine⟨by rw[b1];rfl,fun _ b=>⟨(g b).symm.trans (j b),?_⟩⟩
  by_cases z:u.id=k
  ·have f:(z0q id u).id=k:=by rw[(z4j id u).1];exact z
   have Z:(z10 a (z4u m x) (z0q id u)).id=(z0q id u).id:=by
    rw[K];conv=>rhs;rw[J]
    exact(zcf C (x:=q.setKids (l++x::r)) (y:=q.setKids (l++r)) rfl rfl).1
   rw[z9r z,z9r (Z.trans f)]
  ·have f:¬(z0q id u).id=k:=by rw[(z4j id u).1];exact z
   exact(i f).symm.trans (o f)
theorem lrp_own{u:T}{id:Idv}{f:T->T}(n:standsT u=true)(z:id∈idsT u)(b:∀q:T,(f q).id=q.id/\(f q).kids=q.kids)(o:standsT (z10 id f u)=true):LRP u (z10 id f u) id []:=by
 obtain⟨C,e,h,g,_⟩:=focus id u z
 generalize (z07 id u).1=q at e h;have a:id∉z4b C:=(z2c (x:=q) (by rw[<-e];exact z1f n) (h ▸ z1b q)).2;have i:z10 id f u=z2s C (f q):=by rw[e,z4n f h C g a]
 have w:idsT (f q)=idsT q:=by rw[z1c,z1c q,(b q).1,(b q).2]
 have d:idsT (z10 id f u)=idsT u:=by rw[i,z2x,w,<-z2x,<-e]
 refine⟨o,by rw[<-z3q,<-z3q,d];rfl,YL,fun k y=>?_⟩;have v:zn4 id u (z10 id f u):=by
  have:=zg1 (keeps_own (b q).1 (b q).2) (b q).1 C;rw[h,<-e,<-i]at this;exact this
 obtain⟨b1,p,s⟩:=z70 v (z1f n) (z1f o) y;refine⟨by rw[b1];rfl,fun _ j=>⟨p j,?_⟩⟩
 by_cases m:u.id=k
 ·have A:(z10 id f u).id=u.id:=by
   rw[i];conv=>rhs;rw[e]
   cases C with
   |hole=>exact(b q).1
   |node t l c r=>rfl
  rw[z9r m,z9r (A.trans m)]
 ·exact s m
theorem lrp_words{u:T}{id:Idv}{l:List Wd}(h:z4o u id l=0):LRP u (z10 id (fun q=>q.setWords l) u) id []:=by
 obtain⟨b,k,j,d,r⟩:=zd0 h;refine lrp_own b k (fun q=>⟨rfl,rfl⟩) ?_;obtain⟨C,e,g,c,_⟩:=focus id u k
 generalize (z07 id u).1=q at e g d;have a:id∉z4b C:=(z2c (x:=q) (by rw[<-e];exact z1f b) (g ▸ z1b q)).2;rw[e,z4n (fun q=>q.setWords l) g C c a];rw[e]at b;refine zg2 b rfl rfl rfl ?_ (fun h=>h);have m:=((z18 _).1 b).1;rw[z4v]at m;have f:=(z8y m.2).1;unfold z3l at f⊢;simp only[Zb,decide_eq_true_eq]at f⊢;obtain⟨n,o,p,t,i⟩:=f;refine⟨n,o,p,?_,?_⟩
 ·show zdc l=true;unfold zdc;rw[decide_eq_true r,Yd,ZH];intro w s;unfold oddB at j;have:=Y7.1 j w s
  simpa using this
 ·rw[if_neg d]at i;rw[if_neg (show ¬(q.setWords l).kind=0 from d)];exact i
theorem rel_ok{u:T}{id:Idv}{a:ByteArray}(h:znc u id a=0):standsT u=true/\z3x a=true/\id∈idsT u/\¬(z07 id u).1.kind=0/\zdu u id a=false:=by
 unfold znc at h;split at h
 ·cases h
 rename_i b;split at h
 ·cases h
 rename_i c;split at h
 ·cases h
 rename_i d;split at h
 ·cases h
 rename_i e;rw[not_or,Zi,Zi]at b;rw[Zi,z1y,decide_eq_true_eq]at c;exact⟨b.1,b.2,c,d,by simpa using e⟩
theorem lrp_label{u:T}{id:Idv}{a:ByteArray}(h:znc u id a=0):LRP u (z10 id (fun q=>q.setLabel a) u) id []:=by
 obtain⟨g,K,G,k,L⟩:=rel_ok h;refine lrp_own g G (fun q=>⟨rfl,rfl⟩) ?_;have b:∀q:T,z3l q=true->¬q.kind=0->z3l (q.setLabel a)=true:=fun q v f=>by
  unfold z3l at v⊢;simp only[Zb,decide_eq_true_eq]at v⊢;obtain⟨m,n,o,p,_⟩:=v;refine⟨m,n,o,p,?_⟩;rw[if_neg (show ¬(q.setLabel a).kind=0 from f)];exact K
 by_cases s:u.id=id
 ·rw[z30 s]at k;rw[z6h,if_pos s];refine zg2 (C:=.hole) g rfl rfl rfl (b u (z8y ((z18 u).1 g).1).1 k) (fun _=>trivial)
 ·obtain⟨C,q,l,x,r,e,A,P,n1,Z,F,O⟩:=zjl s G;have c:=z1f g;have H:=c;rw[e]at c;have j:q.id∈idsT (q.setKids (l++x::r)):=by rw[z29];exact ZF
  obtain⟨Y,m2⟩:=z2c c j;have B:id∈idsT (q.setKids (l++x::r)):=by rw[z29];exact Z6 _ (ze1.2 (.inr (.inl (A ▸ z1b x))))
  obtain⟨W,X⟩:=z2c c B;have ns:=(zbq (z88 c)).1 id (A ▸ z1b x);have w:z07 q.id u=(q.setKids (l++x::r),true):=by rw[e,z7h j C Y];exact z30 rfl
  -- the edit at x,seen from zdw it
  have N:z10 id (fun q=>q.setLabel a) u=z2s C (q.setKids (l++x.setLabel a::r)):=by
   have t:u=z2s (zl4 C (.node q l .hole r)) x:=by rw[zio];exact e
   rw[t,z4n (fun q=>q.setLabel a) A _ ?_ ?_,zio];rfl
   ·rw[zvg,Za];rintro(h|h)
    ·exact W h
    ·simp only[z89,Yn,Z7]at h;rcases h with h|h
     ·exact P h.symm
     ·exact Z h
   ·rw[zos,Za];rintro(h|h)
    ·simp only[z4b,Zw]at h;exact ns.2.2 h
    ·exact X h
  rw[N];rw[F]at k;have d:zdu u id a=false:=L;unfold zdu at d;rw[O,F,w]at d;simp only[Yd,Bool.or_eq_false_iff,decide_eq_false_iff_not]at d;obtain⟨_,d⟩:=d;have R:(a,x.kind)=(a,x.kind):=rfl;have I:=g;rw[e,z18]at I;obtain⟨J,u2,u3,u4,u5,u6⟩:=I;have z:idsT (q.setKids (l++x.setLabel a::r))=idsT (q.setKids (l++x::r)):=by
   rw[z29,z29,Z8,Z8,Zf,Zf,z1c (x.setLabel a),z1c x];rfl
  have M:depT (x.setLabel a)=depT x:=by rw[z5w,z5w x];rfl
  obtain⟨Q,f⟩:=zcf C (x:=q.setKids (l++x.setLabel a::r)) (y:=q.setKids (l++x::r)) rfl rfl;rw[z18];refine⟨?_,?_,?_,?_,by rw[Q,f];exact u5,?_⟩
  ·rw[z4v,zf1]at J⊢;obtain⟨uC,⟨m,n,o,p,a5⟩,uX⟩:=J;refine⟨uC,⟨m,n,o,p,?_⟩,?_⟩
   ·intro i;obtain⟨y,U,f⟩:=Zl.1 i;have E:y∈l++x::r:=by
     rcases Za.1 U with h|h
     ·exact Zm _ h
     ·exact Zj _ (Z6 _ h)
    have:=Y7.1 d y E;simp only[Zb,decide_eq_true_eq,not_and]at this;exact this (congrArg YK f) (congrArg Prod.snd f)
   ·have:=uX;rw[z42]at this⊢;simp only[Zb]at this⊢;exact⟨b x this.1 k,this.2⟩
  ·rw[zag,zv4]at u2⊢;omega
  ·have hc:cntT (q.setKids (l++x.setLabel a::r))=cntT (q.setKids (l++x::r)):=by rw[<-z3q,<-z3q,z]
   rw[z7c]at u3⊢;omega
  ·rw[z2x,z,<-z2x];exact u4
  ·rw[z9e,z,<-z9e];exact u6
theorem move_nn{u:T}{id b:Idv}{i:Int}(h:z7r u id b i=0):0<=i:=by
 obtain⟨_,_,_,_,_,a⟩:=zca h;unfold z4q at a;split at a
 ·cases a
 split at a
 ·cases a
 split at a
 ·cases a
 split at a
 ·cases a
 omega
theorem lrp_moveI{u:T}{id a:Idv}{i:Int}(h:z7r u id a i=0):LRP u (z10 a (z4u i.toNat (z07 id u).1) (z0q id u)) id []:=by
 have b:=move_nn h;obtain⟨m,rfl⟩:=Yu b;exact lrp_move h
end Tr
namespace Tr
def zj4(s:Stp):Bool:=decide (s.kind=0)&&decide (s.label=z3h)
def znd(s:Stp):Bool:=decide (1<=s.kind/\s.kind<=7)&&z3x s.label
def okS(i:Nat)(s:Stp):Bool:=(decide (i=0)&&zj4 s) ||znd s
def zbi(p:List Stp):Bool:=decide (p.length<=9)&&decide (∀i,(h:i<p.length)->okS i p[i]=true)
theorem zvo{p:List Stp}{i:Nat}(h:i<p.length)(a:okS i p[i]=false):zbi p=false:=by
 unfold zbi;rw[decide_eq_false (p:=∀i,(h:i<p.length)->okS i p[i]=true) (fun g=>by rw[g i h]at a;cases a),Y2]
theorem addr_all{p:List Stp}(a:p.length<=9)(h:∀i,(h:i<p.length)->okS i p[i]=true):zbi p=true:=by
 unfold zbi;rw[decide_eq_true a,decide_eq_true h];rfl
theorem addr_long{p:List Stp}(a:¬p.length<=9):zbi p=false:=by unfold zbi;rw[decide_eq_false a];rfl
theorem addr_of{p:List Stp}(h:zbi p=true):p.length<=9/\∀i,(h:i<p.length)->okS i p[i]=true:=by
 unfold zbi at h;simp only[Zb,decide_eq_true_eq]at h;exact h
def atB(s:Stp)(u:T):Bool:=decide (u.kind=s.kind)&&decide (u.label=s.label)
def z2z(a:List T)(s:Stp):List T:=a.flatMap fun x=>x.kids.filter (atB s)
def z24(u:T)(s:Stp):List T:=if zj4 s=true then [u] else (z0c u).filter (atB s)
def goT(u:T):List Stp->List T
 |[]=>[u]
 |s::r=>r.foldl z2z (z24 u s)
def z3t(u:T)(p:List Stp):List T:=if zbi p=true then goT u p else []
def z6g(u:T)(p:List Stp):List Idv:=(z3t u p).map T.id
def oneL:List Idv->Idv×Int
 |[]=>(Idv.zero,7)
 |[i]=>(i,0)
 |_::_::_=>(Idv.zero,8)
def z1e(u:T)(p:List Stp):Idv×Int:=oneL (z6g u p)
theorem one_nil{u:T}{p:List Stp}(h:z6g u p=[]):z1e u p=(Idv.zero,7):=by unfold z1e;rw[h];rfl
theorem oneL_one:∀(l:List Idv) (h:l.length=1),oneL l=(l[0]'(by omega),0)
 |[_],_=>rfl
theorem oneL_two:∀(l:List Idv),1<l.length->oneL l=(Idv.zero,8)
 |_::_::_,_=>rfl
theorem one_one{u:T}{p:List Stp}(h:(z6g u p).length=1):z1e u p=((z6g u p)[0]'(by omega),0):=oneL_one _ h
theorem one_two{u:T}{p:List Stp}(h:1<(z6g u p).length):z1e u p=(Idv.zero,8):=oneL_two _ h
def zbj(l:List T):Nat:=(l.map cntT).sum
theorem z66(a b:List T):zbj (a++b)=zbj a+zbj b:=by unfold zbj;rw[Zn,List.sum_append_nat]
theorem z7y(l:List T):l.length<=zbj l:=by
 induction l with
 |nil=>simp[zbj]
 |cons x l d =>
  have a:=z66 [x] l;have b:=zk0 x;have c:zbj [x]=cntT x:=by simp[zbj]
  rw[ZL]at a;simp only[ZN];omega
theorem zj5(f:T->Bool)(l:List T):zbj (l.filter f)<=zbj l:=by
 induction l with
 |nil=>simp[zbj]
 |cons x l c =>
  have a:=z66 [x] l;have b:=z66 [x] (l.filter f);rw[ZL]at a b;rw[ZE];split<;>omega
theorem wsum_kids(x:T):zbj x.kids<=cntT x:=by
 rw[z4f];have:∀l:List T,zbj l=(l.flatMap z0c).length:=fun l=>by
  induction l with
  |nil=>simp[zbj]
  |cons y l c =>
   have a:=z66 [y] l;have b:zbj [y]=cntT y:=by simp[zbj]
   rw[ZL]at a;rw[Zf,Z4,<-c,a,b];rfl
 rw[this];omega
theorem zbk(a:List T)(s:Stp):zbj (z2z a s)<=zbj a:=by
 unfold z2z
 induction a with
 |nil=>simp[zbj]
 |cons x l f =>
  have b:=z66 [x] l;have c:zbj [x]=cntT x:=by simp[zbj]
  rw[ZL]at b;rw[Zf,z66];have d:=zj5 (atB s) x.kids;have e:=wsum_kids x;omega
theorem cnt_node:∀t:T,∀x∈z0c t,cntT x<=cntT t:=by
 refine z4a fun t b x hx=>?_;rw[z1l]at hx;rcases Z7.1 hx with rfl|hx
 ·exact ZV _
 ·obtain⟨k,a,hx⟩:=Z5.1 hx;have:=b k a x hx;have:=zby a;omega
theorem wsum_le{l:List T}{m:Nat}(h:∀x∈l,cntT x<=m):zbj l<=l.length*m:=by
 induction l with
 |nil=>simp[zbj]
 |cons x l c =>
  have a:=z66 [x] l;have d:zbj [x]=cntT x:=by simp[zbj]
  rw[ZL]at a;have e:=h x (by simp);have f:=c fun y b=>h y (Z6 _ b);rw[ZN,ZS];omega
theorem z9p{u:T}{s:Stp}{m:Nat}(a:cntT u<=m):zbj (z24 u s)<=m*m:=by
 have d:=zk0 u;unfold z24;split
 ·have b:zbj [u]=cntT u:=by simp[zbj]
  rw[b];exact Ya a (Nat.le_mul_of_pos_left _ (by omega))
 ·refine Ya (zj5 _ _) (Ya (wsum_le (m:=m) fun x c=>Ya (cnt_node u x c) a) ?_);exact Yy _ a
theorem z9q{m:Nat}:∀(r:List Stp) (a:List T),zbj a<=m->zbj (r.foldl z2z a)<=m
 |[],a,h=>h
 |s::r,a,h=>z9q r (z2z a s) (Ya (zbk a s) h)
theorem zpb{u:T}{p:List Stp}{m:Nat}(a:cntT u<=m):(z3t u p).length<=m*m+1:=by
 unfold z3t;split
 ·cases p with
  |nil=>simp[goT]
  |cons s r =>
   have:=z7y (goT u (s::r));have b:zbj (goT u (s::r))<=m*m:=z9q r _ (z9p a);omega
 ·simp
theorem next_mem{a:List T}{s:Stp}{u:T}(h:∀x∈a,x∈z0c u):∀x∈z2z a s,x∈z0c u:=fun x b=>by
 unfold z2z at b;obtain⟨y,d,b⟩:=Z5.1 b;have c:=(ZB.1 b).1;exact z8g u y (h y d) x (z31 c (z1t x))
theorem zbl{s:Stp}{u:T}:∀x∈z24 u s,x∈z0c u:=fun x a=>by
 unfold z24 at a;split at a
 ·rw[List.mem_singleton.1 a];exact z1t u
 ·exact(ZB.1 a).1
theorem zct{u:T}:∀(r:List Stp) (a:List T),(∀x∈a,x∈z0c u)->∀x∈r.foldl z2z a,x∈z0c u
 |[],_,h=>h
 |_::r,_,h=>zct r _ (next_mem h)
end Tr
namespace Tr
def zja(t:T):Bool :=
 if t.kind=0 then decide (t.label=z3h)&&(decide (t.head.length=0)&&decide (t.words.length=0))
 else decide (0<t.kind/\t.kind<=7)&&(z3x t.label&&(zdc t.head&&zdc t.words))
def shapeF(t:T)(l:List (Nat->Bool))(d:Nat):Bool :=
 !(decide (8<d) ||(decide (0<d)&&decide (t.kind=0)) || !zja t ||decide (64<t.kids.length))&&((t.kids.all fun k=>z1h t.kind k.kind)&&(l.all (fun f=>f (d+1))&&decide ((t.kids.map z5r).Nodup)))
def zes(t:T)(d:Nat):Bool:=zgc shapeF t d
theorem shapeT_eq(t:T)(d:Nat):zes t d=(!(decide (8<d) ||(decide (0<d)&&decide (t.kind=0)) || !zja t ||decide (64<t.kids.length))&&((t.kids.all fun k=>z1h t.kind k.kind)&&((t.kids.all fun k=>zes k (d+1))&&decide ((t.kids.map z5r).Nodup)))):=by
 unfold zes;rw[z3r,shapeF,YN];rfl
def b1(n:UInt8):ByteArray:=⟨#[n]⟩
def escB(s:ByteArray):ByteArray:=if (bl s).headD 0=124 \/ (bl s).headD 0=92 then b1 92++s else s
def zy7(l:List Wd):ByteArray:=l.foldl (fun s w=>s++b1 32++escB w.text) ZK
def twoX:Nat->ByteArray
 |0=>ZK
 |n+1=>twoX n++⟨#[32,32]⟩
def zho(t:T)(d:Nat):ByteArray :=
 if zja t=false \/ 8<d then ZK else
 let s:=twoX d++zgr t.kind
 let s:=if t.kind=0 then s else s++b1 32++t.label
 let s:=if 0<t.head.length then s++b1 58++zy7 t.head else s
 if 0<t.words.length then s++⟨#[32,124]⟩++zy7 t.words else s
def linesF(t:T)(l:List (Nat->List ByteArray))(d:Nat):List ByteArray:=zho t d::l.flatMap fun f=>f (d+1)
def z6i(t:T)(d:Nat):List ByteArray:=zgc linesF t d
theorem zjb(t:T)(d:Nat):z6i t d=zho t d::t.kids.flatMap fun k=>z6i k (d+1):=by
 unfold z6i;rw[z3r,linesF,List.flatMap_map]
def zpn(t:T):Bool:=zes t 0&&decide (cntT t<=1024)
def zpo(l:List ByteArray):ByteArray:=l.foldl (fun s w=>s++w++b1 10) ZK
def textT(t:T):ByteArray×Int:=if zpn t=false then (ZK,1) else if 16384<(zpo (z6i t 0)).size then (ZK,6) else (zpo (z6i t 0),0)
def lower(b:UInt8):Bool:=decide (97<=b.toNat/\b.toNat<=122)
def ztj(b:UInt8):Bool:=lower b ||(dig b ||decide (b.toNat=45))
def zjc(s:ByteArray):Bool:=decide (1<=s.size/\s.size<=16)&&(lower ((bl s).headD 0)&&(bl s).all ztj)
def startB(k d:Int)(e:ByteArray):Bool :=
 if k=1 then decide (0<=d/\d<=1048576)&&decide (e=z3h)
 else if k=3 then decide (d=0)&&zjc e
 else if k=0 \/ k=2 then decide (d=0)&&decide (e=z3h) else false
def ztk(x:It):It :=
 let m:=decide (x.kind<=6)
 let k:=x.kind
 .mk k (if m then x.at_ else []) (if k=6 then x.to else []) (if k=0 \/ k=6 then x.wh else 0) (if k=2 \/ k=3 then x.nth else 0) (if k=0 then x.unit else T.zero)
  (if k=2 \/ k=3 then x.old else []) (if k=2 \/ k=3 \/ k=4 then x.new else []) (if k=5 then x.label else z3h) (if m then x.for_ else z3h) (if m then x.sk else 0) (if m then x.sd else 0) (if m then x.se else z3h)
  (if k=7 \/ k=8 \/ k=9 \/ k=11 then x.act else 0) (if k=7 \/ k=8 \/ k=9 \/ k=11 then x.item else 0) (if m \/ k=11 then 0 else x.day) (if k=10 then x.event else z3h) (if k=11 then x.by_ else [])
noncomputable instance:DecidableEq It:=fun _ _=>Classical.propDecidable _
def inB(n a b:Int):Bool:=decide (a<=n/\n<=b)
def z5u(x:It)(l:List Bool):Bool :=
 if x.kind=0 then inB x.wh 0 3&&(z6y x.unit&&decide (x.unit=z97 x.unit)&&(!decide (x.unit.kind=0)&&decide ((textT x.unit).2=0)))
 else if x.kind=2 then zee x.old&&decide (1<=x.old.length)&&(zee x.new&&inB x.nth 0 256)
 else if x.kind=3 then zee x.old&&(zee x.new&&decide (1<=x.new.length)&&(inB x.nth 0 256&&(decide (0<x.old.length) ||decide (x.nth=0))))
 else if x.kind=4 then zee x.new
 else if x.kind=5 then z3x x.label
 else if x.kind=6 then inB x.wh 0 3&&zbi x.to
 else if x.kind=7 \/ x.kind=8 \/ x.kind=9 then inB x.act 1 1048576&&(inB x.item (-1) 31&&inB x.day 0 1048576)
 else if x.kind=10 then zjc x.event&&inB x.day 0 1048576
 else if x.kind=11 then inB x.act 1 1048576&&(inB x.item 0 31&&(decide (x.by_.length=1)&&((x.by_.all fun y=>inB y.kind 0 6)&&l.all id)))
 else true
noncomputable def mayF(x:It)(l:List Bool):Bool :=
 (inB x.kind 0 11&&decide (x=ztk x))&&((decide (6<x.kind) ||(zbi x.at_&&((decide (x.for_=z3h) ||zjc x.for_)&&startB x.sk x.sd x.se)))&&z5u x l)
noncomputable def zdx(x:It):Bool:=recI mayF x
theorem ztl(x:It):zdx x=mayF x (x.by_.map zdx):=by unfold zdx;rw[zgt]
end Tr
namespace Tr
def z1v(l:List ByteArray)(a i:Int)(k:Nat):List Wd:=(l.zipIdx k).map fun p=>⟨p.1,⟨a,i,(p.2:Int)⟩⟩
theorem z2f(l:List ByteArray)(a i:Int)(k:Nat):(z1v l a i k).length=l.length:=by unfold z1v;rw[Zu,List.length_zipIdx]
theorem zg6(l:List ByteArray)(w:ByteArray)(a i:Int)(k:Nat):z1v (l++[w]) a i k=z1v l a i k++[⟨w,⟨a,i,((k+l.length:Nat):Int)⟩⟩]:=by
 unfold z1v;rw[List.zipIdx_append,Zn];rfl
theorem zlu(l:List ByteArray)(a i:Int)(k:Nat):(z1v l a i k).map (·.text)=l:=by
 unfold z1v;rw[List.map_map];show (l.zipIdx k).map YK=l;exact List.zipIdx_map_fst k l
def za9:List (Nat->Nat->T×Nat×Nat)->Nat->Nat->List T×Nat×Nat
 |[],n,m=>([],n,m)
 |f::a,n,m=>((f n m).1::(za9 a (f n m).2.1 (f n m).2.2).1,(za9 a (f n m).2.1 (f n m).2.2).2)
theorem zj7(f:Nat->Nat->T×Nat×Nat):∀(l:List (Nat->Nat->T×Nat×Nat)) (n m:Nat),za9 (l++[f]) n m=((za9 l n m).1++[(f (za9 l n m).2.1 (za9 l n m).2.2).1],(f (za9 l n m).2.1 (za9 l n m).2.2).2)
 |[],n,m=>rfl
 |g::l,n,m=>by simp only[ZC,za9,zj7 f l]
def zpc(a i:Int)(t:T)(l:List (Nat->Nat->T×Nat×Nat))(n m:Nat):T×Nat×Nat :=
 (.mk ⟨a,i,(n:Int)⟩ t.kind t.label (z1v (t.head.map (·.text)) a i m) (z1v (t.words.map (·.text)) a i (m+t.head.length)) (za9 l (n+1) (m+t.head.length+t.words.length)).1,(za9 l (n+1) (m+t.head.length+t.words.length)).2)
def z1x(a i:Int)(t:T):Nat->Nat->T×Nat×Nat:=zgc (zpc a i) t
theorem z56(a i:Int)(t:T)(n m:Nat):z1x a i t n m=zpc a i t (t.kids.map (z1x a i)) n m:=by unfold z1x;rw[z3r]
def z39(a i:Int)(t:T):T:=(z1x a i t 1 0).1
def wcF(t:T)(l:List Nat):Nat:=t.head.length+t.words.length+l.sum
def wcT(t:T):Nat:=zgc wcF t
theorem zpd(t:T):wcT t=t.head.length+t.words.length+(t.kids.map wcT).sum:=by unfold wcT;rw[z3r];rfl
theorem zpe(a i:Int):∀t:T,∀n m:Nat,(z1x a i t n m).2=(n+cntT t,m+wcT t):=by
 refine z4a fun t e n m=>?_;rw[z56];show (za9 (t.kids.map (z1x a i)) (n+1) (m+t.head.length+t.words.length)).2=_;have c:∀l:List T,(∀k∈l,∀n m:Nat,(z1x a i k n m).2=(n+cntT k,m+wcT k))->∀n m:Nat,(za9 (l.map (z1x a i)) n m).2=(n+(l.flatMap z0c).length,m+(l.map wcT).sum):=by
  intro l
  induction l with
  |nil=>intro _ n m;simp[za9]
  |cons k l b =>
   intro h n m;simp only[Zg,za9];rw[b (fun k d=>h k (Z6 _ d)),h k (by simp)];simp only[Zf,Z4,YM];rw[Ys];refine⟨?_,?_⟩
   ·show n+cntT k+_=n+((z0c k).length+_);unfold cntT;omega
   ·omega
 rw[c t.kids e,z4f,zpd,Ys];exact⟨by omega,by omega⟩
theorem z71(a i:Int)(P:T->T->Prop):∀(l:List T),(∀k∈l,∀n m:Nat,P k (z1x a i k n m).1)->∀n m:Nat,(za9 (l.map (z1x a i)) n m).1.length=l.length/\∀j (h:j<l.length) (b:j<(za9 (l.map (z1x a i)) n m).1.length),P l[j] ((za9 (l.map (z1x a i)) n m).1[j]):=by
 intro l
 induction l with
 |nil=>intro _ n m;exact⟨rfl,fun j h=>by simp at h⟩
 |cons k l g =>
  intro h n m;simp only[Zg,za9];obtain⟨c,b⟩:=g (fun k f=>h k (Z6 _ f)) (z1x a i k n m).2.1 (z1x a i k n m).2.2;refine⟨by simp only[ZN,c],fun j d e=>?_⟩;cases j with
  |zero=>exact h k (by simp) n m
  |succ j=>simp only[Yv];exact b j (by simpa using d) _
theorem ztf{l m:List T}(c:m.length=l.length)(h:∀j (h:j<l.length) (a:j<m.length),depT m[j]=depT l[j]):ze5 (m.map depT)=ze5 (l.map depT):=by
 congr 1
 refine YG (by simp[c]) fun j b a=>?_;simp only[Zu]at b a;simp only[ZO];exact h j a b
theorem zj8(a i:Int):∀t:T,∀n m:Nat,depT (z1x a i t n m).1=depT t:=by
 refine z4a fun t d n m=>?_;rw[z56];obtain⟨b,c⟩:=z71 a i (fun k e=>depT e=depT k) t.kids d (n+1) (m+t.head.length+t.words.length);rw[z5w,z5w t];exact ztf b c
theorem cnt_list{l m:List T}(d:m.length=l.length)(h:∀j (h:j<l.length) (b:j<m.length),cntT m[j]=cntT l[j]):(m.flatMap z0c).length=(l.flatMap z0c).length:=by
 have a:∀l:List T,(l.flatMap z0c).length=(l.map cntT).sum:=fun l=>by
  induction l with
  |nil=>rfl
  |cons k l e=>rw[Zf,Z4,e,Zg,YM];rfl
 rw[a,a]
 congr 1
 refine YG (by simp[d]) fun j c b=>?_;simp only[Zu]at c b;simp only[ZO];exact h j b c
theorem zep(a i:Int):∀t:T,∀n m:Nat,cntT (z1x a i t n m).1=cntT t:=by
 refine z4a fun t d n m=>?_;rw[z56];obtain⟨b,c⟩:=z71 a i (fun k e=>cntT e=cntT k) t.kids d (n+1) (m+t.head.length+t.words.length);rw[z4f,z4f t];have:=cnt_list b c;show 1+((za9 _ _ _).1.flatMap z0c).length=_;rw[this]
theorem zvq(a i:Int):∀t:T,szB t=true->∀n m:Nat,szB (z1x a i t n m).1=true:=by
 refine z4a fun t C y n m=>?_;obtain⟨p,q,h,r,o,s,u⟩:=(z1k t).1 y;rw[z56];obtain⟨g,F⟩:=z71 a i (fun k E=>szB k=true->szB E=true) t.kids (fun k d n m B=>C k d B n m) (n+1) (m+t.head.length+t.words.length);have c:∀(l:List Wd) (k:Nat),(∀w∈l,w.text.size<=1000000)->∀w∈z1v (l.map (·.text)) a i k,w.text.size<=1000000:=fun l k x w A=>by
  have:w.text∈(z1v (l.map (·.text)) a i k).map (·.text):=Zl.2 ⟨w,A,rfl⟩;rw[zlu]at this;obtain⟨v,z,e⟩:=Zl.1 this;rw[<-e];exact x v z
 refine(z1k _).2 ⟨p,?_,c _ _ h,?_,c _ _ o,?_,fun k d=>?_⟩
 ·show (z1v _ _ _ _).length<=_;rw[z2f,Zu];exact q
 ·show (z1v _ _ _ _).length<=_;rw[z2f,Zu];exact r
 ·show (za9 _ _ _).1.length<=_;rw[g];exact s
 ·obtain⟨j,f,rfl⟩:=Zz d;have b:j<t.kids.length:=by rw[<-g];exact f
  exact F j b f (u _ (Zd b))
theorem stamp_id(a i:Int)(t:T):(z39 a i t).id=⟨a,i,1⟩:=by unfold z39;rw[z56];rfl
theorem zlv(a i:Int)(t:T):(z39 a i t).kind=t.kind:=by unfold z39;rw[z56];rfl
end Tr
namespace Tr
theorem zvd{id k:Idv}:∀u:T,(idsT u).Nodup->¬u.id=id->k∈idsT u->(∀y,z07 id u=(y,true)->k∉idsT y)->z3i k (z0q id u)=z3i k u:=by
 refine z4a fun u J H z F E=>?_
 by_cases m:id∉idsT u
 ·rw[zoj m]
 rw[Ye]at m
 by_cases c:u.id=k
 ·rw[zbm c];exact zbm (by rw[(z4j id u).1];exact c)
 ·obtain⟨i,f,A,B,L⟩:=z8w c (z4s.2 F);have l:=z4s.1 B;obtain⟨K,w,x⟩:=z77 H;have g:=Zd f;have a:¬u.kids[i].id=id:=fun e=>by
   refine E u.kids[i] ?_ l;have I:z27 id u.kids[i]=[u.kids[i]]:=z4m e;have b:z27 id u.kids[i] ≠ []:=by rw[I];simp
   rw[z5k (z5j z f (fun j q h=>(z6a id _).2 (x i j f h (by omega) id (e ▸ z1b _))) b) b];exact z30 e
  have d:∀y,z07 id u.kids[i]=(y,true)->k∉idsT y:=fun y C=>E y (by
   have b:z27 id u.kids[i] ≠ []:=zcu.1 (by rw[C]);rw[z5k (z5j z f (fun j q h=>(z6a id _).2 (x i j f h (by omega) id (z4s.1 b))) b) b]
   exact C)
  have p:=J _ g (w _ g) a l d;have o:=zfr u.kids[i] (w _ g) a l d;have r:u.kids=u.kids.take i++u.kids[i]::u.kids.drop (i+1):=by rw[<-Y4 f,Ze]
  have s:k∈idsT (z0q id u.kids[i]):=by
   have:(z07 k (z0q id u.kids[i])).2=true:=by rw[o]
   rw[z1y,decide_eq_true_eq]at this;exact this
  rw[zvt c f A B,z4z];have e:(u.kids.filter (z8i id)).map (z0q id)=((u.kids.take i).filter (z8i id)).map (z0q id)++z0q id u.kids[i]::((u.kids.drop (i+1)).filter (z8i id)).map (z0q id):=by
   conv=>lhs;rw[r]
   rw[Y0,ZE,if_pos (zbo a),Zn,Zg]
  rw[e,ztv c ?_ s,p];intro G;obtain⟨y,v,d⟩:=Z5.1 G;obtain⟨M,t,rfl⟩:=Zl.1 v;have n:=(ZB.1 t).1;obtain⟨j,q,rfl⟩:=Zz n;rw[Zh]at q;rw[Yg]at d;have:=A j (by omega) (by omega);rw[z6a]at this;exact this (zdb id _ k d)
end Tr
namespace Tr
def z76(id:Idv)(t:T):T×Int×Int:=zgc (fun t l=>if z1r (fun k=>decide (k.id=id)) t.kids<t.kids.length then (t,0,(z1r (fun k=>decide (k.id=id)) t.kids:Int)) else match l.find? (fun r=>decide (0<=r.2.2))with
 |some r=>(r.1,r.2.1+1,r.2.2)
 |none=>(T.zero,0,-1)) t
theorem zau(id:Idv)(t:T):z76 id t=if z1r (fun k=>decide (k.id=id)) t.kids<t.kids.length then (t,0,(z1r (fun k=>decide (k.id=id)) t.kids:Int)) else match (t.kids.map (z76 id)).find? (fun r=>decide (0<=r.2.2))with
  |some r=>(r.1,r.2.1+1,r.2.2)
  |none=>(T.zero,0,-1):=by unfold z76;rw[z3r]
theorem zcb{α:Type}{f:α->Bool}{l:List α}(h:∀x∈l,f x=false):z1r f l=l.length:=z2j (ZV _) (fun j a=>h _ (Zd _)) (fun h=>absurd h (Yt _))
theorem zsc{α:Type}{f:α->Bool}{l r:List α}{x:α}(h:∀y∈l,f y=false)(b:f x=true):z1r f (l++x::r)=l.length :=
 z2j (by simp) (fun j a=>by rw[Y9 a];exact h _ (Zd _)) (fun c=>by simpa using b)
theorem zav{l:List T}{id:Idv}(h:id∉l.flatMap idsT):∀k∈l,id∉idsT k:=fun k a b=>h (Z5.2 ⟨k,a,b⟩)
theorem zkk{k:T}{id:Idv}(h:id∉idsT k):¬k.id=id:=fun e=>h (e ▸ z1b k)
theorem par23_out{id:Idv}:∀t:T,id∉t.kids.flatMap idsT->z76 id t=(T.zero,0,-1):=by
 refine z4a fun t e h=>?_;rw[zau,zcb (fun k a=>decide_eq_false (zkk (zav h k a))),if_neg (Yt _)];have:(t.kids.map (z76 id)).find? (fun r=>decide (0<=r.2.2))=none:=by
  rw[ZQ];intro r d;obtain⟨k,a,rfl⟩:=Zl.1 d;have b:=zav h k a;rw[e k a (fun c=>b (by rw[z1c];exact Z6 _ c))]
  decide
 rw[this]
theorem zmq{id:Idv}{q x:T}{l r:List T}(j:x.id=id)(i:¬q.id=id)(h:id∉l.flatMap idsT):∀C,id∉z89 C->id∉z4b C->z76 id (z2s C (q.setKids (l++x::r)))=(q.setKids (l++x::r),(zyc C:Int),(l.length:Int))
 | .hole,_,_=>by
  have g:z1r (fun k=>decide (k.id=id)) (l++x::r)=l.length:=zsc (fun k hk=>decide_eq_false (zkk (zav h k hk))) (decide_eq_true j);rw[z2s,zau];show (if z1r _ (l++x::r)<(l++x::r).length then _ else _)=_;rw[g,if_pos (by simp)];show (_,_,((z1r _ (l++x::r):Nat):Int))=_;rw[g];rfl
 | .node t b c d,o,p=>by
  obtain⟨E,m,n⟩:=z5l o;obtain⟨y,z⟩:=zjk p;have w:=zmq (r:=r) j i h c n y;have a:¬(z2s c (q.setKids (l++x::r))).id=id:=by
   cases c with
   |hole=>exact i
   |node G B A F=>exact(z5l n).1
  rw[z2s,zau];have f:∀k∈b++z2s c (q.setKids (l++x::r))::d,decide (k.id=id)=false:=fun k hk=>by
   rw[Za,Z7]at hk;rcases hk with hk|rfl|hk
   ·exact decide_eq_false (zkk (zav m k hk))
   ·exact decide_eq_false a
   ·exact decide_eq_false (zkk (zav z k hk))
  show (if z1r _ (b++z2s c (q.setKids (l++x::r))::d)<(b++z2s c (q.setKids (l++x::r))::d).length then _ else match ((b++z2s c (q.setKids (l++x::r))::d).map (z76 id)).find? _ with|some r=>_|none=>_)=_;rw[zcb f,if_neg (Yt _),Zn,Zg,List.find?_append];have v:(b.map (z76 id)).find? (fun r=>decide (0<=r.2.2))=none:=by
   rw[ZQ];intro r u;obtain⟨k,hk,rfl⟩:=Zl.1 u;have e:=zav m k hk;rw[par23_out k (fun s=>e (by rw[z1c];exact Z6 _ s))]
   decide
  rw[v,Option.none_or,List.find?_cons,w];simp only[Int.natCast_nonneg,decide_true];show (_,((zyc c:Nat):Int)+1,_)=(_,((zyc c+1:Nat):Int),_)
  rw[ZX];rfl
theorem zig{id:Idv}{u:T}(c:(idsT u).Nodup)(i:¬u.id=id)(j:id∈idsT u):z76 id u=((z07 (z3c id u).1 u).1,((z3i (z3c id u).1 u).length:Int),(z3c id u).2.1):=by
 obtain⟨C,q,l,x,r,e,d,m,v,p,s,k⟩:=zjl i j;rw[k];have b:id∈idsT (q.setKids (l++x::r)):=by rw[z29];exact Z6 _ (ze1.2 (.inr (.inl (d ▸ z1b x))))
 subst e;obtain⟨n,o⟩:=z2c c b;have a:q.id∈idsT (q.setKids (l++x::r)):=by rw[z29];exact ZF
 obtain⟨f,t⟩:=z2c c a;have g:z07 q.id (q.setKids (l++x::r))=(q.setKids (l++x::r),true):=z30 rfl;have h:(z3i q.id (z2s C (q.setKids (l++x::r)))).length=zyc C:=zko rfl f;rw[zmq d m p C n o,z7h a C f,g];show _=(_,((z3i q.id (z2s C (q.setKids (l++x::r)))).length:Int),_)
 rw[h]
end Tr
end
end
end Go.Proofs.YtppebcifiejplaaGreatDoor
