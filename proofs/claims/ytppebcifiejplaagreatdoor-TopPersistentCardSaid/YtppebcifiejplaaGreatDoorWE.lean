import Derived.Test.YtppebcifiejplaaGreatDoorWD
import Derived.Test.YtppebcifiejplaaGreatDoorRows
import Derived.Carry
import Derived.WideShapes
/-
 Lemmas of the claim. No condition but those that each names.
-/
set_option linter.unusedSimpArgs false
set_option linter.unusedVariables false
set_option maxHeartbeats 8000000
set_option linter.unusedSectionVars false
open Nat renaming reduceBEq->Z0,reduceLeDiff->Z1,reduceAdd->Z2,reduceMul->Zh,reduceEqDiff->Zi,reduceLT->Zs,le_trans->Zt,le_refl->ZH,add_assoc->ZK,zero_le->ZL,lt_trichotomy->ZS,mul_le_mul_right->Y0,lt_irrefl->Y4,sub_self->Yc,add_sub_cancel->Yg,min_eq_left->Yk,strongRecOn->Yl,add_zero->Yq,add_mul->Yt
open Int renaming natCast_one->Z3,natCast_add->Z5,natCast_zero->Z7,reduceEq->ZF,reduceLE->ZJ,toNat->ZO,toNat_natCast->ZR,natCast_nonneg->Yf,le_refl->Ys
open List renaming take_succ_eq_append_getElem->Z4,getElem_mem->Z6,length_append->Z9,length_cons->Za,flatMap_append->Zb,flatMap_cons->Zc,flatMap_nil->Zd,append_nil->Ze,map_cons->Zf,take_length->Zg,map_nil->Zk,take_of_length_le->Zl,length_map->Zm,filter_append->Zn,nil_append->Zo,cons_append->Zp,filter_cons->Zq,mem_map->Zv,getElem_append_right->Zx,map_append->Zy,filter_nil->Zz,foldl_append->ZB,all_eq_true->ZC,append_assoc->ZD,length_take->ZE,length_nil->ZG,getElem_cons_zero->ZI,getElem_of_mem->ZM,map_map->ZN,set_cons_succ->ZP,set_cons_zero->ZQ,getElem_cons->ZT,getElem_append_left->ZV,sum_cons->ZW,take_append_drop->ZY,mem_cons_of_mem->Y1,take_zero->Y2,mem_cons->Y3,mem_flatMap->Y8,eq_nil_of_length_eq_zero->Y9,getElem?_eq_getElem->Yb,length_eq_one_iff->Yd,mem_singleton->Ye,getElem?_map->Yi,getElem_map->Yj,foldl_cons->Ym,sum_append->Yn
open Bool renaming and_self->Z8,and_eq_true->Zj,and_false->Zr,true_and->Zu,not_eq_true->ZA,eq_iff_iff->ZX,false_and->ZZ,and_true->Y5,not_eq_false->Y7,or_eq_true->Ya,not_eq_true'->Yh
open ByteArray renaming empty->Zw
open Iff renaming rfl->ZU
open Classical renaming not_not->Y6
open Prod renaming snd->Yo,mk.injEq->Yp,mk.inj->Yr
open Go.Proofs.YtppebcifiejplaaGreatDoor.Abs.Le renaming refl->XX
namespace Go.Proofs.YtppebcifiejplaaGreatDoor
section
section
open Abs Facts Tr
namespace Tr
def zer(wh:Int):Bool:=decide (wh=2 \/ wh=3)
def z51(u:T)(to:Idv)(wh:Int):Idv:=if zer wh=true then (z3c to u).1 else to
def zhn(u:T)(id a:Idv):List T:=if (z3c id u).1=a then (z07 a u).1.kids.eraseIdx (z3c id u).2.1.toNat else (z07 a u).1.kids
def zpj(u:T)(id to:Idv)(wh:Int):Nat :=
 if zer wh=true then z1r (fun k=>decide (k.id=to)) (z0q id (z07 (z51 u to wh) u).1).kids+(if wh=2 then 1 else 0)
 else if wh=0 then 0 else (z0q id (z07 (z51 u to wh) u).1).kids.length
def z67(u:T)(id to:Idv)(wh:Int):Int :=
 if u.id=id \/ (zer wh=true/\u.id=to) \/ (to∈idsT (z07 id u).1/\(¬to=id \/ zer wh=false)) then 9 else
 if z1h (z07 (z51 u to wh) u).1.kind (z07 id u).1.kind=false then 9 else
 if z2u (zhn u id (z51 u to wh)) (z07 id u).1.kind (z07 id u).1.label=true then 10 else
 if 64<=(zhn u id (z51 u to wh)).length \/ 8<(z3i (z51 u to wh) u).length+1+depT (z07 id u).1 then 6 else 0
def z57(u:T)(id to:Idv)(wh:Int):T :=
 if z67 u id to wh=0/\¬to=id then z10 (z51 u to wh) (z4u (zpj u id to wh) (z07 id u).1) (z0q id u) else u
theorem zdw{u:T}{id:Idv}(b:(idsT u).Nodup)(f:¬u.id=id)(h:id∈idsT u):∃(q:T) (l:List T) (x:T) (r:List T),z3c id u=(q.id,(l.length:Int),true)/\z07 id u=(x,true)/\x.id=id /\
  z07 q.id u=(q.setKids (l++x::r),true)/\q.setKids (l++x::r)∈z0c u/\id∉l.flatMap idsT/\id∉r.flatMap idsT/\q.id∈idsT u/\(∀i∈idsT x,i≠q.id/\i∉l.flatMap idsT/\i∉r.flatMap idsT):=by
 obtain⟨C,q,l,x,r,e,c,n,p,m,g,j⟩:=zjl f h;refine⟨q,l,x,r,j,g,c,?_⟩;subst e;have a:q.id∈idsT (q.setKids (l++x::r)):=by rw[z29];exact List.mem_cons_self
 obtain⟨k,o⟩:=z2c b a;have d:=(zbq (z88 b)).1;refine⟨by rw[z7h a C k];exact z30 rfl,zin C (z1t _),m,(d id (c ▸ z1b x)).2.2,z80 C a,d⟩
theorem way_in{k:Idv}:∀t:T,∀z∈z27 k t,k∈idsT z:=by
 refine z4a fun t e z hz=>?_
 by_cases b:t.id=k
 ·rw[z4m b,Ye]at hz;rw[hz,<-b];exact z1b t
 ·have a:z27 k t ≠ []:=List.ne_nil_of_mem hz;obtain⟨i,d,f,g,c⟩:=z8w b a;rw[c,Y3]at hz;rcases hz with rfl|hz
  ·exact z4s.1 a
  ·exact e _ (Z6 d) z hz
theorem anc_in{u:T}{id k:Idv}(c:(idsT u).Nodup)(h:id∈z3i k u):k∈idsT (z07 id u).1:=by
 unfold z3i at h;rw[List.mem_reverse,Zv]at h;obtain⟨z,d,b⟩:=h;have a:=(List.dropLast_sublist _).subset d;rw[z8s c (zah k u z a) b];exact way_in u z a
theorem par_out{u x:T}{to:Idv}(b:(idsT u).Nodup)(m:¬u.id=to)(o:to∈idsT u)(s:x∈z0c u)(h:to∉idsT x):(z3c to u).1∈idsT u/\(z3c to u).1∉idsT x:=by
 obtain⟨q,l,y,r,p,v,t,w,d,A,B,c,_⟩:=zdw b m o;rw[p];refine⟨c,fun n=>h ?_⟩;obtain⟨z,g,f⟩:=Zv.1 n;have i:=z8s b (z8g u x s z g) f;have a:=z8s b d rfl;rw[show (q.setKids (l++y::r)).id=q.id from rfl]at a;rw[i]at a;have j:z=q.setKids (l++y::r):=(Yr a).1;have e:y∈z0c z:=by rw[j];exact z31 (k:=y) (by show y∈l++y::r;simp) (z1t y)
 exact Zv.2 ⟨y,z8g x z g y e,t⟩
theorem wipe_kids{id:Idv}{P:T}(h:∀k∈P.kids,¬k.id=id):(z0q id P).kids=P.kids.map (z0q id):=by
 rw[z4z];show (P.kids.filter (z8i id)).map (z0q id)=_;rw[List.filter_eq_self.2 fun k a=>zbo (h k a)]
theorem findN_map{α β:Type}{f:β->Bool}{g:α->β}{l:List α}:z1r f (l.map g)=z1r (fun x=>f (g x)) l:=by
 unfold z1r;rw[List.takeWhile_map,Zm];rfl
theorem zpk{u:T}{id a:Idv}(o:(idsT u).Nodup)(s:¬u.id=id)(v:id∈idsT u)(p:a∈idsT u) :
    (z0q id (z07 a u).1).kids.map z5r=(zhn u id a).map z5r/\(z0q id (z07 a u).1).kids.length=(zhn u id a).length /\
    (((z3c id u).1=a/\∃l x r,(z07 a u).1.kids=l++x::r/\x.id=id/\(z3c id u).2.1=(l.length:Int)/\(z0q id (z07 a u).1).kids=l++r) \/
     (¬(z3c id u).1=a/\(z0q id (z07 a u).1).kids=(z07 a u).1.kids.map (z0q id))):=by
  obtain⟨q,l,x,r,c,E,j,w,A,B,C,z,m⟩:=zdw o s v;have y:¬q.id=id:=fun e=>(m id (j ▸ z1b x)).1 e.symm
  by_cases b:(z3c id u).1=a
  · have h:q.id=a:=by rw[c]at b;exact b
    have d:z07 a u=(q.setKids (l++x::r),true):=h ▸ w;have i:(z0q id (q.setKids (l++x::r))).kids=l++r:=by rw[zpl j B C];rfl
    have f:zhn u id a=l++r:=by
      unfold zhn;rw[if_pos b,d,c];show (l++x::r).eraseIdx (ZO (l.length:Int))=_;rw[ZR,List.eraseIdx_append_of_length_le (ZH _),Yc];rfl
    rw[d,f,i];exact⟨rfl,rfl,.inl ⟨b,l,x,r,rfl,j,by rw[c],rfl⟩⟩
  · have f:zhn u id a=(z07 a u).1.kids:=by unfold zhn;rw[if_neg b]
    have g:∀k∈(z07 a u).1.kids,¬k.id=id:=fun k f e=>b (by
      have n:=zg0 u o _ (z4r (id:=a) (u:=u) (by rw[z1y,decide_eq_true p])) k f;rw[e]at n;rw[n];obtain⟨_,_,t,_⟩:=focus a u p
      exact t)
    have i:=wipe_kids g;rw[f,i];refine⟨?_,by rw[Zm],.inr ⟨b,rfl⟩⟩;rw[ZN];refine List.map_congr_left fun k _=>?_;show z5r (z0q id k)=z5r k;unfold z5r;rw[(z4j id k).2.1,(z4j id k).2.2.1]
theorem zy6{l m:List T}(h:l.map z5r=m.map z5r)(x:T):z2u l x.kind x.label=z2u m x.kind x.label:=by
 have a:=zij (l:=l) (x:=x);have c:=zij (l:=m) (x:=x);rw[h]at a;cases b:z2u l x.kind x.label with
 |false=>exact(c.2 (a.1 b)).symm
 |true=>cases d:z2u m x.kind x.label with
  |true=>rfl
  |false=>rw[a.2 (c.1 d)]at b;cases b
theorem zbn{u:T}{id to:Idv}{wh:Int}(p:standsT u=true)(A:id∈idsT u)(E:to∈idsT u)(h:z67 u id to wh=0):¬u.id=id/\(zer wh=true->¬u.id=to) /\
  (¬to=id->z51 u to wh∈idsT u/\z51 u to wh∉idsT (z07 id u).1/\z7r u id (z51 u to wh) (zpj u id to wh)=0):=by
 unfold z67 at h;split at h
 ·cases h
 rename_i I;split at h
 ·cases h
 rename_i j;split at h
 ·cases h
 rename_i m;split at h
 ·cases h
 rename_i w;simp only[not_or,not_and,Y6,Y7,ZA]at I j m w;obtain⟨c,t,J⟩:=I;refine⟨c,t,fun f=>?_⟩;have e:=z1f p;have F:=z4r (id:=id) (u:=u) (by rw[z1y,decide_eq_true A]);have g:to∉idsT (z07 id u).1:=fun Q=>f (J Q).1;have a:z51 u to wh∈idsT u/\z51 u to wh∉idsT (z07 id u).1:=by
  unfold z51;split
  ·rename_i o;exact par_out e (t o) E F g
  ·exact⟨E,g⟩
 refine⟨a.1,a.2,?_⟩;obtain⟨G,n,x,d1,H,d3,M,N,O,d7,d8,P,K,L,v⟩:=z6t p c A;obtain⟨Y,Z,k3⟩:=zpk e c A a.1;have i:∀y,z07 id u=(y,true)->z51 u to wh∉idsT y:=fun y s=>by have:=a.2;rw[s]at this;exact this
 have b:=zfr u e c a.1 i;have z:=zvd u e c a.1 i;rw[H]at j m w a;simp only at j m w a;have C:z51 u to wh∈idsT (z0q id u):=(v _ a.1).resolve_left a.2;refine zfl p H a.1 c a.2 ?_;refine zda M N O C ?_ ?_ ?_ ?_ ?_ ?_ P
 ·rw[b];show z1h (z0q id _).kind _=true;rw[(z4j id _).2.1];exact j
 ·rw[b];show zpj u id to wh<=(z0q id (z07 (z51 u to wh) u).1).kids.length;unfold zpj;split
  ·rename_i o
   -- the unit beside is there
   obtain⟨q,l,y,r,U,hf,s,W,X,_⟩:=zdw e (t o) E;have B:z51 u to wh=q.id:=by unfold z51;rw[if_pos o,U]
   have R:z1r (fun k=>decide (k.id=to)) (z0q id (z07 (z51 u to wh) u).1).kids<(z0q id (z07 (z51 u to wh) u).1).kids.length:=by
    have:=z7e (fun k:T=>decide (k.id=to)) (z0q id (z07 (z51 u to wh) u).1).kids;have d:(z0q id (z07 (z51 u to wh) u).1).kids.any (fun k=>decide (k.id=to))=true:=by
     rw[z4z];show ((List.filter _ _).map _).any _=true;rw[List.any_map,List.any_eq_true];refine⟨y,List.mem_filter.2 ⟨?_,zbo (by rw[s];exact f)⟩,?_⟩
     ·rw[B,W];show y∈l++y::r;simp
     ·show decide ((z0q id y).id=to)=true;rw[(z4j id y).1,decide_eq_true s]
    rw[d]at this;exact of_decide_eq_true this
   split<;>omega
  ·split
   ·exact ZL _
   ·exact ZH _
 ·rw[b];show z2u (z0q id _).kids _ _=false;rw[zy6 Y];exact m
 ·rw[b];show (z0q id _).kids.length<64;rw[Z];omega
 ·rw[z];omega
 ·have:=((z18 u).1 p).2.2.1;omega
def z6x(u:T)(to:Idv)(wh:Int):(Idv×Int)×Int :=
 if wh=0 then ((to,0),0) else if wh=1 then ((to,((z07 to u).1.kids.length:Int)),0) else
 if (z3c to u).2.2=true then (((z3c to u).1,(z3c to u).2.1+(if wh=2 then 1 else 0)),0) else ((Idv.zero,0),9)
def zl6(u:T)(id to:Idv)(wh:Int):(Idv×Int)×Int :=
 if (z3c id u).2.2=false \/ (¬to=id/\id∈z3i to u) \/ (to=id/\zer wh=false) then ((Idv.zero,0),9) else
 if to=id then (((z3c id u).1,(z3c id u).2.1),0) else
 if (z6x u to wh).2=0/\(z6x u to wh).1.1=(z3c id u).1/\(z3c id u).2.1<(z6x u to wh).1.2 then (((z6x u to wh).1.1,(z6x u to wh).1.2-1),(z6x u to wh).2) else z6x u to wh
theorem wh4{wh:Int}(h:0<=wh/\wh<=3):wh=0 \/ wh=1 \/ wh=2 \/ wh=3:=by omega
theorem goes_ok{u:T}{id to:Idv}{wh:Int}(hs:standsT u=true)(Y:id∈idsT u)(ht:to∈idsT u)(hw:0<=wh/\wh<=3)(h:z67 u id to wh=0) :
  zl6 u id to wh=(if to=id then ((z3c id u).1,(z3c id u).2.1) else (z51 u to wh,(zpj u id to wh:Int)),0):=by
 obtain⟨a1,a2,a3⟩:=zbn hs Y ht h;have K:=z1f hs;obtain⟨q,l,x,r,hp,hf,hx,hq,b8,n1,n2,b7,b9⟩:=zdw K a1 Y;have h9:¬(u.id=id \/ (zer wh=true/\u.id=to) \/ (to∈idsT (z07 id u).1/\(¬to=id \/ zer wh=false))):=fun g=>by
  unfold z67 at h;rw[if_pos g]at h;cases h
 simp only[not_or,not_and,Y6]at h9;obtain⟨_,_,E⟩:=h9;have Z:(z3c id u).2.2=true:=by rw[hp]
 have B:¬((z3c id u).2.2=false \/ (¬to=id/\id∈z3i to u) \/ (to=id/\zer wh=false)):=by
  rintro(g|⟨B,C⟩|⟨B,C⟩)
  ·rw[Z]at g;cases g
  ·exact B (E (anc_in K C)).1
  ·have:=(E (by rw[B];exact(by rw[hf];exact hx ▸ z1b x))).2;exact this C
 unfold zl6;rw[if_neg B]
 by_cases f:to=id
 ·rw[if_pos f,if_pos f]
 rw[if_neg f,if_neg f];obtain⟨a4,b6,_⟩:=a3 f;obtain⟨k1,k2,k3⟩:=zpk K a1 Y a4
 -- the place that leads gives,and the place among the kids that are left
 have J:∃z:Int,z6x u to wh=((z51 u to wh,z),0)/\(zpj u id to wh:Int)=if z51 u to wh=(z3c id u).1/\(z3c id u).2.1<z then z-1 else z:=by
  by_cases p:zer wh=true
  ·obtain⟨q2,a,y,m,I,b3,hy,a5,b2,m1,m2,b0,c0⟩:=zdw K (a2 p) ht;have b:z51 u to wh=q2.id:=by unfold z51;rw[if_pos p,I]
   have v:wh=2 \/ wh=3:=of_decide_eq_true p;refine⟨(a.length:Int)+(if wh=2 then 1 else 0),?_,?_⟩
   ·unfold z6x;rw[if_neg (by omega),if_neg (by omega),I,if_pos rfl,b]
   ·unfold zpj;rw[if_pos p];have F:(z07 (z51 u to wh) u).1.kids=a++y::m:=by rw[b,a5];rfl
    rcases k3 with ⟨n,d,L,w,s,e3,M,t⟩|⟨n,t⟩
    ·rw[t];rw[F]at s;have X:∀k∈a,¬k.id=to:=fun k G=>zkk (zav m1 k G);have a6:∀k∈m,¬k.id=to:=fun k G=>zkk (zav m2 k G);have O:a.length<d.length \/ d.length<a.length:=by
      rcases ZS a.length d.length with g|g|g
      ·exact .inl g
      ·obtain⟨_,C⟩:=List.append_inj s g;exact(f (by rw[<-hy,<-e3];exact congrArg T.id (List.cons.inj C).1)).elim
      ·exact .inr g
     have R:∀j,(o:j<(a++y::m).length)->((a++y::m)[j]).id=to->j=a.length:=fun j o e=>by
      rcases ZS j a.length with g|g|g
      ·rw[ZV g]at e;exact(X _ (Z6 _) e).elim
      ·exact g
      ·have b4:j-a.length-1<m.length:=by simp at o;omega
       have:(a++y::m)[j]=m[j-a.length-1]:=by
        rw[Zx (by omega)];rw[ZT,dif_neg (by omega)]
       rw[this]at e;exact(a6 _ (Z6 _) e).elim
     have Q:z1r (fun k=>decide (k.id=to)) (d++w)=if d.length<a.length then a.length-1 else a.length:=by
      have H:(a++y::m).length=(d++L::w).length:=by rw[s]
      simp only[Z9,Za]at H;have A:∀j,(o:j<(d++w).length)->(d++w)[j]=(a++y::m)[if j<d.length then j else j+1]'(by simp only[Z9,Za]at o⊢;split<;>omega):=fun j o=>by
       have:∀i (hi:i<(a++y::m).length) (U:i<(d++L::w).length),(a++y::m)[i]=(d++L::w)[i]:=fun i hi U=>by simp only[s]
       simp only[Z9]at o
       by_cases g:j<d.length
       ·rw[ZV g];simp only[if_pos g];rw[this j (by simp only[Z9,Za];omega) (by simp only[Z9,Za];omega),ZV g]
       ·rw[Zx (by omega)];simp only[if_neg g];rw[this (j+1) (by simp only[Z9,Za];omega) (by simp only[Z9,Za];omega),Zx (by omega),ZT,dif_neg (by omega)]
        congr 1;omega
      refine z2j ?_ (fun j o=>?_) (fun b5=>?_)
      ·simp only[Z9];split<;>omega
      ·rw[A];refine decide_eq_false fun e=>?_;have:=R _ (by simp only[Z9,Za];split at o<;>split<;>omega) e;split at o<;>split at this<;>omega
      ·rw[A];refine decide_eq_true ?_;have W:(if (if d.length<a.length then a.length-1 else a.length)<d.length then (if d.length<a.length then a.length-1 else a.length) else (if d.length<a.length then a.length-1 else a.length)+1)=a.length:=by
        split<;>split<;>omega
       simp only[W];rw[Zx (ZH _)];simp only[Yc,ZI,hy]
     rw[Q,M];have a0:z51 u to wh=(z3c id u).1:=n.symm;simp only[a0,true_and];rcases v with rfl|rfl
     ·simp only[if_true];split<;>split<;>omega
     ·simp only[show ¬((3:Int)=2) from by decide,if_false];split<;>split<;>omega
    ·rw[t,F,findN_map];have P:z1r (fun x=>decide ((z0q id x).id=to)) (a++y::m)=a.length:=zsc (fun k G=>decide_eq_false (by rw[(z4j id k).1];exact zkk (zav m1 k G))) (decide_eq_true (by rw[(z4j id y).1];exact hy));rw[P,if_neg (c:=z51 u to wh=(z3c id u).1/\_) (fun g=>n g.1.symm)];split<;>rfl
  ·have b:z51 u to wh=to:=by unfold z51;rw[if_neg p]
   have v:wh=0 \/ wh=1:=by
    have:¬(wh=2 \/ wh=3):=fun g=>p (decide_eq_true g);omega
   have a9:=(z3c id u).2.1;rcases v with rfl|rfl
   ·refine⟨0,by unfold z6x;rw[if_pos rfl,b],?_⟩;have N:zpj u id to 0=0:=by unfold zpj;rw[if_neg p,if_pos rfl]
    rw[N,hp];rw[if_neg (by rintro⟨_,g⟩;simp only at g;omega)];rfl
   ·refine⟨((z07 to u).1.kids.length:Int),by unfold z6x;rw[if_neg (by decide),if_pos rfl,b],?_⟩;have N:zpj u id to 1=(z0q id (z07 (z51 u to 1) u).1).kids.length:=by unfold zpj;rw[if_neg p,if_neg (by decide)]
    rw[N];rcases k3 with ⟨n,d,L,w,s,e3,M,t⟩|⟨n,t⟩
    ·rw[t,M];rw[b]at s n;rw[s,b,if_pos ⟨n.symm,by simp only[Z9,Za];omega⟩];simp only[Z9,Za];omega
    ·rw[t,Zm,b,if_neg];rintro⟨g,_⟩;rw[b]at n;exact n g.symm
 obtain⟨z,a7,a8⟩:=J;rw[a7];simp only[true_and];rw[a8];split<;>rfl
end Tr
namespace Tr
theorem zew{u:T}{p:List Stp}{id:Idv}{e:Int}(h:z1e u p=(id,e))(d:e=0):id∈idsT u:=by
 subst d;have a:∀i∈z6g u p,i∈idsT u:=fun i b=>by
  unfold z6g z3t at b;split at b
  ·obtain⟨x,c,rfl⟩:=Zv.1 b;refine Zv.2 ⟨x,?_,rfl⟩;cases p with
   |nil=>rw[goT,Ye]at c;rw[c];exact z1t u
   |cons s r=>exact zct r _ zbl x c
  ·cases b
 unfold z1e at h;generalize z6g u p=l at h a
 match l,h with
 |[],h=>cases h
 |[i],h=>rw[<-(Yr h).1];exact a i (by simp)
 |_::_::_,h=>cases h
theorem zcz{u P:T}{a:Idv}{f:T->T}(i:(idsT u).Nodup)(g:z07 a u=(P,true)):z10 a (fun _=>f P) u=z10 a f u:=by
 have h:a∈idsT u:=by have:=congrArg Yo g;rw[z1y,decide_eq_true_eq]at this;exact this
 obtain⟨C,e,d,c,_⟩:=focus a u h
 rw[g]at e d;simp only at e d;have b:a∉z4b C:=(z2c (x:=P) (by rw[<-e];exact i) (d ▸ z1b P)).2;rw[e,z4n _ d C c b,z4n _ d C c b]
def z99(u:T)(id:Idv)(wh:Int)(x:T):Int :=
 if zer wh=true/\u.id=id then 9 else
 if z1h (z07 (z51 u id wh) u).1.kind x.kind=false then 9 else
 if z2u (z07 (z51 u id wh) u).1.kids x.kind x.label=true then 10 else
 if 64<=(z07 (z51 u id wh) u).1.kids.length \/ 8<(z3i (z51 u id wh) u).length+1+depT x \/ 1024<cntT u+cntT x then 6 else
 if ((idsT x).any fun i=>(z07 i u).2)=true then 5 else 0
def zex(u:T)(id:Idv)(wh:Int):Nat :=
 if zer wh=true then (z3c id u).2.1.toNat+(if wh=2 then 1 else 0) else if wh=0 then 0 else (z07 (z51 u id wh) u).1.kids.length
def zey(u:T)(id:Idv)(wh:Int)(x:T):T:=if z99 u id wh x=0 then z10 (z51 u id wh) (z4u (zex u id wh) x) u else u
theorem znk{u x:T}{id:Idv}{wh:Int}(i:(idsT u).Nodup)(c:id∈idsT u)(p:0<=wh/\wh<=3)(h:z99 u id wh x=0):z6x u id wh=((z51 u id wh,(zex u id wh:Int)),0)/\z51 u id wh∈idsT u/\zex u id wh<=(z07 (z51 u id wh) u).1.kids.length:=by
 have e:¬(zer wh=true/\u.id=id):=fun g=>by unfold z99 at h;rw[if_pos g]at h;cases h
 unfold z6x z51 zex
 by_cases a:zer wh=true
 ·have f:¬u.id=id:=fun g=>e ⟨a,g⟩;obtain⟨q,l,x,r,j,o,s,k,m,t,v,d,n⟩:=zdw i f c;have b:wh=2 \/ wh=3:=of_decide_eq_true a;rw[if_neg (by omega),if_neg (by omega),j,if_pos rfl,if_pos a,if_pos a];simp only[ZR];refine⟨?_,d,?_⟩
  ·split<;>rfl
  ·rw[k];show _<=(l++x::r).length;simp only[Z9,Za];split<;>omega
 ·have b:wh=0 \/ wh=1:=by
   have:¬(wh=2 \/ wh=3):=fun g=>a (decide_eq_true g);omega
  rw[if_neg a,if_neg a];rcases b with rfl|rfl
  ·exact⟨rfl,c,ZL _⟩
  ·refine⟨?_,c,?_⟩
   ·rw[if_neg (by decide),if_pos rfl,if_neg (by decide)];unfold z51;rw[if_neg a]
   ·rw[if_neg (by decide)];unfold z51;rw[if_neg a];exact ZH _
theorem ins_at{u x:T}{a:Idv}{n:Nat}(k:(idsT u).Nodup)(j:a∈idsT u)(i:n<=(z07 a u).1.kids.length) :
  z07 a (z10 a (z4u n x) u)=(z4u n x (z07 a u).1,true)/\n<(z4u n x (z07 a u).1).kids.length/\∀h:n<(z4u n x (z07 a u).1).kids.length,(z4u n x (z07 a u).1).kids[n]=x:=by
 obtain⟨C,e,f,b,_⟩:=focus a u j
 generalize (z07 a u).1=P at *;have c:a∉z4b C:=(z2c (x:=P) (by rw[<-e];exact k) (f ▸ z1b P)).2;have g:(z4u n x P).kids=P.kids.take n++x::P.kids.drop n:=rfl;have d:(z4u n x P).id=a:=f;refine⟨?_,?_,fun h=>?_⟩
 ·rw[e,z4n _ f C b c,z7h (d ▸ z1b _) C b];exact z30 d
 ·rw[g];simp only[Z9,Za,ZE,List.length_drop];omega
 ·simp only[g];rw[Zx (by rw[ZE];omega)];simp only[ZE,Yk i,Yc,ZI]
end Tr
end
open _root_.Go.Proofs.Tryz
section
open Abs Facts Tr
attribute [local irreducible] awp
set_option maxRecDepth 100000
namespace Tr
def z7n(id:Idv)(t:T):Int:=((z27 id t).length:Int)-1
theorem zjo{id:Idv}{t:T}(h:t.id=id):z7n id t=0:=by unfold z7n;rw[z4m h];rfl
theorem zr1{id:Idv}{t:T}(h:z27 id t=[]):z7n id t = -1:=by unfold z7n;rw[h];rfl
theorem zwa{id:Idv}{t:T}(h:id∉idsT t):z7n id t = -1:=zr1 ((z6a id t).2 h)
theorem zwb{id:Idv}{t k:T}(h:z27 id t=t::z27 id k):z7n id t=z7n id k+1:=by
 unfold z7n;rw[h,Za,Z5];omega
theorem ze2{id:Idv}{t:T}:0<=z7n id t ↔ z27 id t ≠ []:=by
 unfold z7n;cases z27 id t with
 |nil=>simp
 |cons a l=>simp only[Za,Z5,ne_eq,reduceCtorEq,not_false_eq_true,iff_true];omega
theorem deep_in{id:Idv}{t:T}(h:id∈idsT t):z7n id t=((z3i id t).length:Int):=by
 have a:=z4s.2 h;unfold z7n z3i;rw[List.length_reverse,Zm,List.length_dropLast];have:=List.length_pos_iff.2 a;omega
theorem zyk{id:Idv}{t:T}{i:Nat}(hi:i<t.kids.length)(b:∀j,(a:j<i)->(h:j<t.kids.length)->¬t.kids[j].id=id)(c:t.kids[i].id=id):z76 id t=(t,0,(i:Int)):=by
 have d:z1r (fun k=>decide (k.id=id)) t.kids=i:=z2j (by omega) (fun j a=>decide_eq_false (b j a (by omega))) (fun _=>decide_eq_true c);rw[zau,d,if_pos hi]
theorem par23_in{id:Idv}{t:T}{i:Nat}(b:∀j,(h:j<t.kids.length)->¬t.kids[j].id=id)(hi:i<t.kids.length)(c:∀j,(a:j<i)->(h:j<t.kids.length)->¬0<=(z76 id t.kids[j]).2.2)(d:0<=(z76 id t.kids[i]).2.2):z76 id t=((z76 id t.kids[i]).1,(z76 id t.kids[i]).2.1+1,(z76 id t.kids[i]).2.2):=by
 have e:z1r (fun k=>decide (k.id=id)) t.kids=t.kids.length:=zcb fun k f=>by
  obtain⟨j,a,rfl⟩:=ZM f;exact decide_eq_false (b j a)
 have g:(t.kids.map (z76 id)).find? (fun r=>decide (0<=r.2.2))=some (z76 id t.kids[i]):=by
  rw[List.find?_eq_some_iff_getElem];refine⟨decide_eq_true d,i,by rw[Zm];exact hi,by rw[Yj],fun j a=>?_⟩;rw[Yj];simp only[Yh,decide_eq_false_iff_not];exact c j a (by omega)
 rw[zau,e,if_neg (Y4 _),g]
theorem par23_no{id:Idv}{t:T}(c:∀j,(h:j<t.kids.length)->¬t.kids[j].id=id)(d:∀j,(h:j<t.kids.length)->¬0<=(z76 id t.kids[j]).2.2):z76 id t=(T.zero,0,-1):=by
 have e:z1r (fun k=>decide (k.id=id)) t.kids=t.kids.length:=zcb fun k b=>by
  obtain⟨j,a,rfl⟩:=ZM b;exact decide_eq_false (c j a)
 have g:(t.kids.map (z76 id)).find? (fun r=>decide (0<=r.2.2))=none:=by
  rw[List.find?_eq_none];intro r f;obtain⟨k,b,rfl⟩:=Zv.1 f;obtain⟨j,a,rfl⟩:=ZM b;simp only[decide_eq_true_eq];exact d j a
 rw[zau,e,if_neg (Y4 _),g]
theorem par23_le(id:Idv):∀t:T,0<=(z76 id t).2.1/\(z76 id t).2.1<=depT t:=by
 refine z4a fun t c=>?_;rw[zau];split
 ·exact⟨Ys _,Yf _⟩
 ·split
  ·rename_i r b;obtain⟨k,a,rfl⟩:=Zv.1 (List.mem_of_find?_eq_some b);have d:=c k a;have e:=z50 a;simp only;omega
  ·exact⟨Ys _,Yf _⟩
end Tr
def zU:List D:=[.int .i64 0,.int .i64 0,.int .i64 0,.int .i64 0,.str Zw,.nil,.nil,.nil]
theorem zd2(id:Idv):∀t:T,szB t=true->depT t<=1000000000->PC prog 33 [z0o t,z0z id] (.tup [z0o (z07 id t).1,.int .i64 (z7n id t)]):=by
 refine z4a fun t C B O=>?_;obtain⟨J,L,G,M,I,N,x⟩:=(z1k t).1 B;refine z14 3 (by simp only[pureD.pureL,z02];rfl) (by simp only[pureD,pureD.pureL,z02,Z8]) (zqzj [3000023,3000025,3000026,3000027,5000028] func33 rfl (by decide+kernel) rfl ?_);rw[show Tryz.f33.results.toList=[.cell 4 27,.tmp 5] from rfl]
 repeat'(first|refine nxt ?_|((refine zqh fun K c=>?_);simp(disch:=omega)only[go_sem,Z0,↓reduceIte,reduceCtorEq,Z2,Z1])|(refine zqd _ rfl ?_ ?_<;>intro k<;>(((try simp only[z05]at k);try omega)))|refine zqu (by(simp(disch:=omega)only[go_sem,Z0,↓reduceIte,Z1]);rfl) rfl ?_|(refine c _ ?_;clear c K))
 ·rw[z30 (by assumption),zjo (by assumption)];exact z06 (by simp only[pureD,pureD.pureL,z04,Z8]) (XX _)
 ·have d:¬t.id=id:=by assumption
  (refine zqL (fun v f=>∃(i:_),v=t.kids.length-i/\f.t 2=.ptr 0 0/\f.t 3=.ptr 1 0/\f.t 4=.ptr 2 0/\f.t 6=.int .i64 i/\f.H 0=some (.box 27 (z08 t))/\f.H 1=some (.box 23 (z0a id))/\f.H 2=some (.box 27 [.int .i64 0,.int .i64 0,.int .i64 0,.int .i64 0,.str Zw,.nil,.nil,.nil])/\(i<=t.kids.length)/\(3<=f.nx)/\(∀j,(A:j<i)->(h:j<t.kids.length)->z27 id t.kids[j]=[])) ?_ ?_);rintro v f ⟨i,rfl,r,w,o,s,l,p,a,E,F,b⟩;rotate_left
  ·(refine⟨_,0,rfl,?_⟩);simp(disch:=omega)only[go_sem,Z0,Z1,true_and,Z7,z0a]
   (repeat'(omega))
  by_cases n:i<t.kids.length
  ·have z:=z50 (Z6 n);have q:=C t.kids[i] (Z6 n) (x _ (Z6 n)) (by omega);have u:=z9c id t.kids[i];have y:z7n id t.kids[i]<=1000000000:=by unfold z7n;omega
   repeat'(first|refine nxt ?_|((first|refine zqh fun K c=>?_|refine zqe (by decide+kernel) fun K c=>?_|refine zqr fun K c=>?_|refine zqt (q) ?_);simp(disch:=omega)only[go_sem,Z0,Zi,↓reduceIte,reduceCtorEq,Z2,Z1,r,w,o,s,l,p,a,z0l,z0a])|((first|refine zqd _ rfl (fun k=>?_) (fun k=>?_)|refine zqm _ rfl (fun k=>?_) (fun k=>?_))<;>(((try simp only[z05]at k);try omega)))|refine zqu (by(simp(disch:=omega)only[go_sem,Z0,↓reduceIte,Z1,o,a]);rfl) rfl ?_|(refine c _ ?_;clear c K))
   ·have m:=ze2.1 ‹0<=z7n id t.kids[i]›;rw[z5k (z5j d n b m) m,zwb (z5j d n b m)];refine z06 (by simp only[pureD,pureD.pureL,z04,Z8]) ?_;exact XX _
   ·have m:z27 id t.kids[i]=[]:=Classical.byContradiction fun g=>by have:=ze2.2 g;omega
    (refine⟨_,?_,i+1,rfl,?_⟩);rotate_left;simp(disch:=omega)only[go_sem,Z0,Z1,r,w,o,s,l,p,a,true_and,Z5,Z3,z0a];rotate_left
    ·omega
    ·refine⟨by omega,by omega,fun j A h=>?_⟩
     by_cases e:j=i
     ·subst e;exact m
     ·exact b j (by omega) h
  ·repeat'(first|refine nxt ?_|((refine zqh fun K c=>?_);simp(disch:=omega)only[go_sem,Z0,↓reduceIte,reduceCtorEq,Z2,Z1,r,o,s,l,a,z0l])|(refine zqd _ rfl ?_ ?_<;>intro k<;>(((try simp only[z05]at k);try omega)))|refine zqz ?_|refine zqu (by(simp(disch:=omega)only[go_sem,Z0,↓reduceIte,Z2,Z1,o,a]);rfl) rfl ?_|(refine c _ ?_;clear c K))
   rw[zeq (zj9 d (by omega) b),zr1 (zj9 d (by omega) b)];exact z06 (by simp only[pureD,pureD.pureL,Z8]) (Le.tup ⟨z4c,XX _,trivial⟩)
theorem ze3(id:Idv):∀t:T,szB t=true->depT t<=1000000000->PC prog 34 [z0o t,z0z id] (.tup [z0o (z76 id t).1,.int .i64 (z76 id t).2.1,.int .i64 (z76 id t).2.2]):=by
 refine z4a fun t M L hd=>?_;obtain⟨W,X,R,Y,U,Z,F⟩:=(z1k t).1 L;refine z14 3 (by simp only[pureD.pureL,z02];rfl) (by simp only[pureD,pureD.pureL,z02,Z8]) (zqzj [3000038,3000040,3000041,3000042,5000043] func34 rfl (by decide+kernel) rfl ?_);rw[show Tryz.f34.results.toList=[.cell 4 27,.tmp 5,.tmp 6] from rfl]
 repeat'(first|refine nxt ?_|((refine zqh fun K b=>?_);simp(disch:=omega)only[go_sem,Z0,Z2])|(refine b _ ?_;clear b K))
 (refine zqL (fun r a=>∃(i:_),r=t.kids.length-i/\a.t 2=.ptr 0 0/\a.t 3=.ptr 1 0/\a.t 4=.ptr 2 0/\a.t 7=.int .i64 i/\a.H 0=some (.box 27 (z08 t))/\a.H 1=some (.box 23 (z0a id))/\a.H 2=some (.box 27 [.int .i64 0,.int .i64 0,.int .i64 0,.int .i64 0,.str Zw,.nil,.nil,.nil])/\(i<=t.kids.length)/\(3<=a.nx)/\(∀j,(p:j<i)->(h:j<t.kids.length)->¬t.kids[j].id=id)) ?_ ?_);rintro r a ⟨i,rfl,w,z,x,A,f,l,g,N,O,m⟩;rotate_left
 ·(refine⟨_,0,rfl,?_⟩);simp(disch:=omega)only[go_sem,Z0,Z1,true_and,Z7,z0a]
  (repeat'(omega))
  all_goals intro j p;omega
 by_cases I:i<t.kids.length
 ·repeat'(first|refine nxt ?_|((first|refine zqh fun K b=>?_|refine zqe (by decide+kernel) fun K b=>?_|refine zqr fun K b=>?_);simp(disch:=omega)only[go_sem,Z0,Zi,↓reduceIte,reduceCtorEq,Z2,Z1,w,z,x,A,f,l,g,z0l,z0a])|((first|refine zqd _ rfl (fun c=>?_) (fun c=>?_)|refine zqm _ rfl (fun c=>?_) (fun c=>?_))<;>(((try simp only[z05]at c);try omega)))|refine zqu (by(simp(disch:=omega)only[go_sem,Z0,↓reduceIte,Z1,x,g]);rfl) rfl ?_|(refine b _ ?_;clear b K))
  ·rw[zyk I m (by assumption)];exact z06 (by simp only[pureD,pureD.pureL,z04,Z8]) (XX _)
  ·(refine⟨_,?_,i+1,rfl,?_⟩);rotate_left;simp(disch:=omega)only[go_sem,Z0,w,z,x,A,f,l,g,true_and,Z5,Z3,z0a];rotate_left
   ·omega
   ·refine⟨by omega,by omega,fun j p h=>?_⟩
    by_cases e:j=i
    ·subst e;assumption
    ·exact m j (by omega) h
 ·repeat'(first|refine nxt ?_|((refine zqh fun K b=>?_);simp(disch:=omega)only[go_sem,Z0,↓reduceIte,reduceCtorEq,Z2,w,A,f,z0l])|(refine zqd _ rfl ?_ ?_<;>intro c<;>(((try simp only[z05]at c);try omega)))|refine zqz ?_|(refine b _ ?_;clear b K))
  have q:∀j,(h:j<t.kids.length)->¬t.kids[j].id=id:=fun j h=>m j (by omega) h;(refine zqL (fun r a=>∃(k:_),r=t.kids.length-k/\a.t 2=.ptr 0 0/\a.t 3=.ptr 1 0/\a.t 4=.ptr 2 0/\a.t 8=.int .i64 k/\a.H 0=some (.box 27 (z08 t))/\a.H 1=some (.box 23 (z0a id))/\a.H 2=some (.box 27 [.int .i64 0,.int .i64 0,.int .i64 0,.int .i64 0,.str Zw,.nil,.nil,.nil])/\(k<=t.kids.length)/\(3<=a.nx)/\(∀j,(p:j<k)->(h:j<t.kids.length)->¬0<=(z76 id t.kids[j]).2.2)) ?_ ?_);rintro r a ⟨k,rfl,B,E,s,C,n,u,d,P,Q,o⟩;rotate_left
  ·(refine⟨_,0,rfl,?_⟩);simp(disch:=omega)only[go_sem,Z0,w,z,x,f,l,g,true_and,Z7,z0a]
   (repeat'(first|omega|refine And.intro ?_ ?_))
   all_goals first|omega|(intro j p;omega)
  by_cases v:k<t.kids.length
  ·have G:=z50 (Z6 v);have y:=M t.kids[k] (Z6 v) (F _ (Z6 v)) (by omega);have J:=par23_le id t.kids[k]
   repeat'(first|refine nxt ?_|((first|refine zqh fun K b=>?_|refine zqe (by decide+kernel) fun K b=>?_|refine zqr fun K b=>?_|refine zqt (y) ?_);simp(disch:=omega)only[go_sem,Z0,Zi,↓reduceIte,reduceCtorEq,Z2,Z1,B,E,s,C,n,u,d,z0l,z0a])|((first|refine zqd _ rfl (fun c=>?_) (fun c=>?_)|refine zqm _ rfl (fun c=>?_) (fun c=>?_))<;>(((try simp only[z05]at c);try omega)))|refine zqu (by(simp(disch:=omega)only[go_sem,Z0,↓reduceIte,Z1,s,d]);rfl) rfl ?_|(refine b _ ?_;clear b K))
   ·rw[par23_in q v o (by assumption)];refine z06 (by simp only[pureD,pureD.pureL,z04,Z8]) ?_;exact XX _
   ·(refine⟨_,?_,k+1,rfl,?_⟩);rotate_left;simp(disch:=omega)only[go_sem,Z0,Z1,B,E,s,C,n,u,d,true_and,Z5,Z3,z0a];rotate_left
    ·omega
    ·refine⟨by omega,by omega,fun j p h=>?_⟩
     by_cases e:j=k
     ·subst e;omega
     ·exact o j (by omega) h
  ·repeat'(first|refine nxt ?_|((refine zqh fun K b=>?_);simp(disch:=omega)only[go_sem,Z0,↓reduceIte,reduceCtorEq,Z2,Z1,B,s,C,n,d,z0l])|(refine zqd _ rfl ?_ ?_<;>intro c<;>(((try simp only[z05]at c);try omega)))|refine zqz ?_|refine zqu (by(simp(disch:=omega)only[go_sem,Z0,↓reduceIte,Z2,Z1,s,d]);rfl) rfl ?_|(refine b _ ?_;clear b K))
   rw[par23_no q fun j h=>o j (by omega) h];exact z06 (by simp only[pureD,pureD.pureL,Z8]) (Le.tup ⟨z4c,XX _,XX _,trivial⟩)
theorem z8o(x:T):∀t:T,szB t=true->PC prog 36 [z0o t,z0o x] (z0o (z10 x.id (fun _=>x) t)):=by
 refine z4a fun t A z=>?_;obtain⟨G,I,E,J,F,L,y⟩:=(z1k t).1 z;refine z14 4 (by simp only[pureD.pureL,z02,Z8]) (z02 _) (zqzj [13,3000016,3000023,3000025,3000026,3000027] func36 rfl (by decide+kernel) rfl ?_);rw[show Tryz.f36.results.toList=[.cell 4 27] from rfl];rw[show z0o t=.agg _ from by rw[z0o,z0n],z6h]
 by_cases d:t.id=x.id
 ·have b:decide (t.id=x.id)=true:=decide_eq_true d;rw[if_pos d];rw[show z0o x=.agg _ from by rw[z0o,z0n]]
  repeat'(first|refine nxt ?_|((refine zqh fun K a=>?_);simp(disch:=omega)only[go_sem,Z0,↓reduceIte,reduceCtorEq,Z2,Z1,b,z0l,ZP,ZQ])|(refine zqd _ rfl ?_ ?_<;>intro g<;>(first|(cases g;done)|((try omega))))|refine zqu (by(simp(disch:=omega)only[go_sem,Z0,↓reduceIte,Z2,Z1]);rfl) rfl ?_|(refine a _ ?_;clear a K))
  exact z06 (by simp only[pureD,pureD.pureL,z0g,zm0,Z8]) (XX _)
 ·have b:decide (t.id=x.id)=false:=decide_eq_false d;rw[if_neg d]
  repeat'(first|refine nxt ?_|((refine zqh fun K a=>?_);simp(disch:=omega)only[go_sem,Z0,↓reduceIte,reduceCtorEq,Z2,Zh,Z1,b])|(refine zqd _ rfl ?_ ?_<;>intro g<;>(first|(cases g;done)|((try omega))))|(refine a _ ?_;clear a K))
  (refine zqL (fun v c=>∃(i:_),v=t.kids.length-i/\c.t 2=.ptr 0 0/\c.t 3=.ptr 1 0/\c.t 4=.ptr 2 0/\c.t 5=.osl 3 i/\c.t 6=.int .i64 i/\c.H 0=some (.box 27 (zpa t))/\c.H 1=some (.box 27 (z08 x))/\c.H 2=some (.box 27 [.int .i64 0,.int .i64 0,.int .i64 0,.int .i64 0,.str Zw,.nil,.nil,.nil])/\c.H 3=some (.row 27 i (((t.kids.take i).map (z10 x.id (fun _=>x))).flatMap z08))/\(i<=t.kids.length)/\(4<=c.nx)) ?_ ?_);rintro v c ⟨i,rfl,q,w,r,s,u,h,k,j,e,B,C⟩;rotate_left
  ·(refine⟨_,0,rfl,?_⟩);simp(disch:=omega)only[go_sem,Z0,Z1,and_self,Z7,Zd,Zk,zpa]
   try exact⟨rfl,rfl⟩
  by_cases m:i<t.kids.length
  ·have o:=A t.kids[i] (Z6 m) (y _ (Z6 m));have p:=Z4 m
   repeat'(first|refine nxt ?_|((first|refine zqh fun K a=>?_|refine zqr fun K a=>?_|refine zqq (by decide+kernel) fun K a=>?_|refine zqt (o) ?_);simp(disch:=omega)only[go_sem,Z0,Zi,↓reduceIte,reduceCtorEq,Z2,Zh,Z1,q,w,s,u,h,k,e,zpa,z0l])|(refine zqd _ rfl ?_ ?_<;>intro g<;>(((try simp only[z05]at g);try omega)))|(refine a _ ?_;clear a K))
   (refine⟨_,?_,i+1,rfl,?_⟩);rotate_left;simp(disch:=omega)only[go_sem,Z0,q,w,r,s,u,h,k,j,e,true_and,Z5,Z3,Zb,Zc,Zd,Zy,Zf,Zk,Ze,p,zpa];rotate_left
   ·omega
   ·omega
  ·repeat'(first|refine nxt ?_|((refine zqh fun K a=>?_);simp(disch:=omega)only[go_sem,Z0,↓reduceIte,reduceCtorEq,Z2,Z1,Zs,q,r,s,u,h,j,z0l,zpa,ZP,ZQ])|(refine zqd _ rfl ?_ ?_<;>intro g<;>(((try simp only[z05]at g);try omega)))|refine zqz ?_|refine zqu (by(simp(disch:=omega)only[go_sem,Z0,↓reduceIte,Z2,Z1,r,j]);rfl) rfl ?_|(refine a _ ?_;clear a K))
   have n:i=t.kids.length:=by omega
   subst n;rw[Zg]at e;refine z3j (z9v 2 (t:=t.setKids (t.kids.map (z10 x.id (fun _=>x)))) (z1j (f:=z08) (l:=t.kids.map (z10 x.id (fun _=>x))) 1 ?_ ?_ z0p z35 z0h z04) rfl)
   ·rw[Zm]
   ·(simp(disch:=omega)only[go_sem,Z0,e])
theorem pc_in23(l:List T)(b:l.length<=1000000)(i:Nat)(hi:i<=l.length)(x:T):PC prog 90 [z0l l,.int .i64 i,z0o x] (z0l (l.take i++x::l.drop i)):=by
 refine z14 3 (by simp only[pureD.pureL,z1g,z02,pureD,Z8]) (z1g _) (zqzj [7,3000012] func90 rfl (by decide+kernel) rfl ?_)
 repeat'(first|((first|refine zqh fun K a=>?_|refine zqe (by decide+kernel) fun K a=>?_);simp(disch:=omega)only[go_sem,Z0,Zi,↓reduceIte,reduceCtorEq,Z2,Zh,Z1,z0l,z4e])|refine nxt ?_|refine zqU ?_|(refine a _ ?_;clear a K))
 refine z3j (z1j (f:=z08) (l:=l.take i++x::l.drop i) 1 ?_ ?_ z0p z35 z0h z04)
 ·simp;omega
 ·(simp(disch:=omega)only[go_sem,Z0,Zb,Zc,ZD])
theorem zw8(l:List T)(d:l.length<=1000000)(i:Nat)(hi:i<l.length):PC prog 35 [z0l l,.int .i64 i] (z0l (l.eraseIdx i)):=by
 refine z14 3 (by simp only[pureD.pureL,z1g,pureD,Z8]) (z1g _) (zqzj [5] func35 rfl (by decide+kernel) rfl ?_);have b:((i:Int)+1).toNat=i+1:=by omega
 have c:IntKind.i64.wrap ((i:Int)+1)=i+1:=zad (by omega)
 repeat'(first|((first|refine zqh fun K a=>?_|refine zqe (by decide+kernel) fun K a=>?_);simp(disch:=omega)only[go_sem,Z0,↓reduceIte,reduceCtorEq,Z2,Zh,z0l,z4e,b,c])|refine nxt ?_|refine zqU ?_|(refine a _ ?_;clear a K))
 rw[List.eraseIdx_eq_take_drop_succ];refine z3j (z1j (f:=z08) (l:=l.take i++l.drop (i+1)) 1 ?_ ?_ z0p z35 z0h z04)
 ·simp
 ·(simp(disch:=omega)only[go_sem,Zb])
def atI(id:Idv)(l:List T):Int:=if z1r (fun k=>decide (k.id=id)) l<l.length then (z1r (fun k=>decide (k.id=id)) l:Int) else -1
theorem pc_at23(l:List T)(w:l.length<=1000000)(id:Idv):PC prog 91 [z0l l,z0z id] (.int .i64 (atI id l)):=by
 refine z14 1 (by simp only[pureD.pureL,z1g];rfl) rfl (zqzj [] func91 rfl (by decide+kernel) rfl ?_)
 repeat'(first|refine nxt ?_|((refine zqh fun K a=>?_);simp(disch:=omega)only[go_sem,z0l])|(refine a _ ?_;clear a K))
 (refine zqL (fun p f=>∃(i:_),p=l.length-i/\f.t 0=z0l l/\f.t 3=.ptr 0 0/\f.t 5=.int .i64 i/\f.H 0=some (.box 23 (z0a id))/\(i<=l.length)/\(1<=f.nx)/\(∀j,(d:j<i)->(h:j<l.length)->¬l[j].id=id)) ?_ ?_);rintro p f ⟨i,rfl,n,q,o,g,u,v,b⟩;rotate_left
 ·(refine⟨_,0,rfl,?_⟩);simp(disch:=omega)only[go_sem,Z0,Z1,true_and,Z7,z0a,z0l]
  (repeat'(omega))
  all_goals intro j d;omega
 by_cases r:i<l.length
 ·repeat'(first|refine nxt ?_|((first|refine zqh fun K a=>?_|refine zqe (by decide+kernel) fun K a=>?_|refine zqr fun K a=>?_);simp(disch:=omega)only[go_sem,Z0,↓reduceIte,reduceCtorEq,Z2,Z1,n,q,o,g,z0l,z0a])|((first|refine zqd _ rfl (fun c=>?_) (fun c=>?_)|refine zqm _ rfl (fun c=>?_) (fun c=>?_))<;>(((try simp only[z05]at c);try omega)))|refine zqU ?_|(refine a _ ?_;clear a K))
  ·refine z1o ?_;have m:z1r (fun k=>decide (k.id=id)) l=i:=z2j (by omega) (fun j d=>decide_eq_false (b j d (by omega))) (fun _=>decide_eq_true (by assumption));unfold atI;rw[m,if_pos r]
  ·(refine⟨_,?_,i+1,rfl,?_⟩);rotate_left;simp(disch:=omega)only[go_sem,Z0,n,q,o,g,true_and,Z5,Z3,z0a];rotate_left
   ·omega
   ·refine⟨by omega,by omega,fun j d h=>?_⟩
    by_cases e:j=i
    ·subst e;assumption
    ·exact b j (by omega) h
 ·repeat'(first|refine nxt ?_|((refine zqh fun K a=>?_);simp(disch:=omega)only[go_sem,Z0,↓reduceIte,n,o,z0l])|(refine zqd _ rfl ?_ ?_<;>intro c<;>(((try simp only[z05]at c);try omega)))|refine zqz ?_|refine zqU ?_|(refine a _ ?_;clear a K))
  refine z1o ?_;have m:z1r (fun k=>decide (k.id=id)) l=l.length:=zcb fun k s=>by
   obtain⟨j,d,rfl⟩:=ZM s;exact decide_eq_false (b j (by omega) d)
  unfold atI;rw[m,if_neg (Y4 _)]
theorem zgd(l:List T)(u:l.length<=1000000)(kind:Int)(a:ByteArray):PC prog 39 [z0l l,.int .i64 kind,.str a] (.bool (z2u l kind a)):=by
 refine z14 1 (by simp only[pureD.pureL,z1g,pureD,Z8]) rfl (zqzj [] func39 rfl (by decide+kernel) rfl ?_)
 repeat'(first|refine nxt ?_|((refine zqh fun K b=>?_);simp(disch:=omega)only[go_sem,z0l])|(refine b _ ?_;clear b K))
 (refine zqL (fun p h=>∃(i:_),p=l.length-i/\h.t 0=z0l l/\h.t 1=.int .i64 kind/\h.t 2=.str a/\h.t 7=.int .i64 i/\(i<=l.length)/\((l.take i).any (fun k=>decide (k.kind=kind)&&decide (k.label=a))=false)) ?_ ?_);rintro p h ⟨i,rfl,j,q,r,m,s,g⟩;rotate_left
 ·(refine⟨_,0,rfl,?_⟩);simp(disch:=omega)only[go_sem,Z0,and_self,Z7,z0l]
  try simp
 by_cases o:i<l.length
 ·repeat'(first|refine nxt ?_|((first|refine zqh fun K b=>?_|refine zqr fun K b=>?_);simp(disch:=omega)only[go_sem,Z0,↓reduceIte,reduceCtorEq,Z2,j,q,m,z0l])|((first|refine zqd _ rfl (fun e=>?_) (fun e=>?_)|refine zqm _ rfl (fun e=>?_) (fun e=>?_))<;>(first|(cases e;done)|((try simp only[z05]at e);try omega)))|refine zqU ?_|(refine b _ ?_;clear b K)|(refine zqf (fun n=>?_) (fun n=>?_)<;>(have c:=n;try simp only[z05]at c)<;>((first|have d:=eq_false c|have d:=eq_true c);simp(disch:=omega)only[go_sem,Z0,↓reduceIte,reduceCtorEq,Z2,d,j,r,m,z0l];clear n d;try omega)))
  ·exact z01 (any_hit (f:=fun k:T=>decide (k.kind=kind)&&decide (k.label=a)) (i:=i) o (by simp_all)).symm
  all_goals
   (refine⟨_,?_,i+1,rfl,?_⟩);rotate_left;simp(disch:=omega)only[go_sem,Z0,j,q,r,m,true_and,Z5,Z3];rotate_left
   ·omega
   ·exact⟨by omega,zan (f:=fun k:T=>decide (k.kind=kind)&&decide (k.label=a)) o g (by simp_all)⟩
 ·repeat'(first|refine nxt ?_|((refine zqh fun K b=>?_);simp(disch:=omega)only[go_sem,Z0,↓reduceIte,j,m,z0l])|(refine zqd _ rfl ?_ ?_<;>intro e<;>(((try simp only[z05]at e);try omega)))|refine zqz ?_|refine zqU ?_|(refine b _ ?_;clear b K))
  exact z01 (any_done (f:=fun k:T=>decide (k.kind=kind)&&decide (k.label=a)) (i:=i) (by omega) g).symm
theorem zq8:∀t:T,szB t=true->depT t<=1000000000->PC prog 87 [z0o t] (.int .i64 (depT t)):=by
 refine z4a fun t q o A=>?_;obtain⟨w,x,u,y,v,z,n⟩:=(z1k t).1 o;refine z14 1 (by simp only[pureD.pureL,z02,Z8]) rfl (zqzj [] func87 rfl (by decide+kernel) rfl ?_)
 repeat'(first|refine nxt ?_|((refine zqh fun K a=>?_);simp(disch:=omega)only[go_sem])|(refine a _ ?_;clear a K))
 (refine zqL (fun m d=>∃(i:_),m=t.kids.length-i/\d.t 1=.ptr 0 0/\d.t 3=.int .i64 (ze5 ((t.kids.take i).map depT):Nat)/\d.t 4=.int .i64 i/\d.H 0=some (.box 27 (z08 t))/\(i<=t.kids.length)/\(1<=d.nx)) ?_ ?_);rintro m d ⟨i,rfl,j,k,l,b,r,s⟩;rotate_left
 ·(refine⟨_,0,rfl,?_⟩);simp(disch:=omega)only[go_sem,Z0,Z1,true_and,and_true,and_self,Z7,Zk]
  rfl
 by_cases e:i<t.kids.length
 ·have B:=z50 (t:=t) (Z6 e);have g:=q t.kids[i] (Z6 e) (n _ (Z6 e)) (by omega);have h:ze5 ((t.kids.take (i+1)).map depT)=max (ze5 ((t.kids.take i).map depT)) (1+depT t.kids[i]):=by
   rw[Z4 e,Zy,Zf,Zk,zjw]
  have p:IntKind.i64.wrap (1+(depT t.kids[i]:Int))=1+depT t.kids[i]:=zad (by omega)
  repeat'(first|refine nxt ?_|((first|refine zqh fun K a=>?_|refine zqr fun K a=>?_|refine zqs (g) ?_);simp(disch:=omega)only[go_sem,Z0,↓reduceIte,reduceCtorEq,Z2,j,k,l,b,z0l,p])|((first|refine zqd _ rfl (fun c=>?_) (fun c=>?_)|refine zqm _ rfl (fun c=>?_) (fun c=>?_))<;>(((try simp only[z05]at c);try omega)))|(refine a _ ?_;clear a K))
  all_goals
   (refine⟨_,?_,i+1,rfl,?_⟩);rotate_left;simp(disch:=omega)only[go_sem,Z0,j,k,l,b,true_and,Z5,Z3,h];rotate_left
   ·omega
   ·refine⟨?_,by omega⟩;omega
 ·repeat'(first|refine nxt ?_|((refine zqh fun K a=>?_);simp(disch:=omega)only[go_sem,Z0,↓reduceIte,reduceCtorEq,Z2,j,k,l,b,z0l])|(refine zqd _ rfl ?_ ?_<;>intro c<;>(((try simp only[z05]at c);try omega)))|refine zqz ?_|refine zqU ?_|(refine a _ ?_;clear a K))
  refine z1o ?_;have f:i=t.kids.length:=by omega
  subst f;rw[Zg,<-z5w]
theorem zge(p k:Int):PC prog 86 [.int .i64 p,.int .i64 k] (.bool (z1h p k)):=by
 refine z14 1 rfl rfl (zqzj [] func86 rfl (by decide+kernel) rfl ?_)
 by_cases f:0<=p/\p<8
 ·rcases zry f with rfl|rfl|rfl|rfl|rfl|rfl|rfl|rfl
  all_goals clear f
  all_goals (repeat'(first|refine nxt ?_|((refine zqh fun K c=>?_);simp(disch:=omega)only[go_sem,Z0,↓reduceIte,ZF])|((refine zqm _ rfl (fun d=>?_) (fun d=>?_))<;>(first|(cases d;done)|((try omega))))|refine zqU ?_|(refine c _ ?_;clear c K)|(refine zqf (fun e=>?_) (fun e=>?_)<;>(have a:=e;try simp only[z05]at a)<;>((first|have b:=eq_false a|have b:=eq_true a);simp(disch:=omega)only[go_sem,Z0,↓reduceIte,b];clear e b;try omega))))
  all_goals refine z01 ?_
  all_goals (simp_all [z1h,belowL];done)
 ·rw[show z1h p k=false from if_neg f]
  repeat'(first|refine nxt ?_|((refine zqh fun K c=>?_);simp(disch:=omega)only[go_sem,Z0,↓reduceIte])|((refine zqm _ rfl (fun d=>?_) (fun d=>?_))<;>(((try simp only[z05]at d);try omega)))|refine zqU ?_|(refine c _ ?_;clear c K))
  all_goals exact z01 rfl
theorem pc_Word11(s:ByteArray)(u:s.size<=maxLen):PC prog 335 [.str s] (.bool (z5t s)):=by
 unfold maxLen at u;refine z14 1 (by simp only[pureD.pureL,pureD,Z8]) rfl (zqzj [] func335 rfl (by decide+kernel) rfl ?_);have q:=z22 s
 repeat'(first|refine nxt ?_|((refine zqh fun K c=>?_);simp(disch:=omega)only[go_sem])|(refine c _ ?_;clear c K))
 (refine zqL (fun p n=>∃(k:_),p=s.size-k/\n.t 0=.str s/\n.t 3=.int .i64 k/\(k<=s.size)/\(((bl s).take k).all ink=true)) ?_ ?_);rintro p n ⟨k,rfl,i,m,v,j⟩;rotate_left
 ·(refine⟨_,0,rfl,?_⟩);simp(disch:=omega)only[go_sem,Z0,true_and,Z7];simp
 have g:∀h:k<s.size,ink ((bl s)[k]'h)=false->z5t s=false:=fun h r=>by
  unfold z5t;rw[z5q (l:=bl s) (k:=k) h r,Zr]
 by_cases o:k<s.size
 ·repeat'(first|refine nxt ?_|((first|refine zqh fun K c=>?_|refine zqr fun K c=>?_);simp(disch:=omega)only[go_sem,Z0,↓reduceIte,i,m,zt0])|((first|refine zqd _ rfl (fun e=>?_) (fun e=>?_)|refine zqm _ rfl (fun e=>?_) (fun e=>?_))<;>(first|(cases e;done)|((try simp only[z05]at e);try omega)))|refine zqU ?_|(refine c _ ?_;clear c K)|(refine zqf (fun d=>?_) (fun d=>?_)<;>(have a:=d;try simp only[z05]at a)<;>((first|have b:=eq_false a|have b:=eq_true a);simp(disch:=omega)only[go_sem,Z0,↓reduceIte,b,i,m,zt0];clear d b;try omega)))
  ·exact z01 (g o (by unfold ink;exact decide_eq_false (by omega))).symm
  ·(refine⟨_,?_,k+1,rfl,?_⟩);rotate_left;simp(disch:=omega)only[go_sem,Z0,i,m,true_and,Z5,Z3];rotate_left
   ·omega
   ·exact⟨by omega,z3d (by omega) j (by unfold ink;exact decide_eq_true (by omega))⟩
  ·exact z01 (g o (by unfold ink;exact decide_eq_false (by omega))).symm
 ·have f:(bl s).all ink=true:=z3p (k:=k) (by omega) j
  repeat'(first|refine nxt ?_|((refine zqh fun K c=>?_);simp(disch:=omega)only[go_sem,Z0,↓reduceIte,i,m])|(refine zqd _ rfl ?_ ?_<;>intro e<;>(((try simp only[z05]at e);try omega)))|refine zqz ?_|refine zqU ?_|(refine c _ ?_;clear c K)|(refine zqf (fun d=>?_) (fun d=>?_)<;>(have a:=d;try simp only[z05]at a)<;>((first|have b:=eq_false a|have b:=eq_true a);simp(disch:=omega)only[go_sem,Z0,↓reduceIte,b,i];clear d b;try omega)))
  all_goals first
   |exact z01 (by unfold z5t;rw[f,Y5,decide_eq_decide];omega)
   |exact z01 (by unfold z5t;rw[decide_eq_false (by omega)];rfl)
theorem zwc(l:List Wd)(n:l.length<=maxLen)(o:∀w∈l,w.text.size<=maxLen):PC prog 318 [z0f l] (.bool (zdc l)):=by
 unfold maxLen at n;refine z14 1 (by simp only[pureD.pureL,z0g,Z8]) rfl (zqzj [] func318 rfl (by decide+kernel) rfl ?_);have p:=fun(i:Nat) (h:i<l.length)=>pc_Word11 l[i].text (o _ (Z6 h))
 repeat'(first|refine nxt ?_|((refine zqh fun K a=>?_);simp(disch:=omega)only[go_sem,z0f])|(refine a _ ?_;clear a K))
 (refine zqL (fun m j=>∃(k:_),m=l.length-k/\j.t 0=z0f l/\j.t 3=.int .i64 k/\(k<=l.length)/\((l.take k).all (fun w=>z5t w.text)=true)) ?_ ?_);rintro m j ⟨k,rfl,e,g,q,c⟩;rotate_left
 ·(refine⟨_,0,rfl,?_⟩);simp(disch:=omega)only[go_sem,Z0,true_and,Z7,z0f];simp
 by_cases d:k<l.length
 ·repeat'(first|refine nxt ?_|((first|refine zqh fun K a=>?_|refine zqr fun K a=>?_|refine zqs (p k d) ?_);simp(disch:=omega)only[go_sem,Z0,↓reduceIte,reduceCtorEq,Z2,e,g,z0f])|((first|refine zqd _ rfl (fun b=>?_) (fun b=>?_)|refine zqm _ rfl (fun b=>?_) (fun b=>?_))<;>(((try simp only[z05]at b);try omega)))|refine zqU ?_|(refine a _ ?_;clear a K))
  ·exact z01 (by unfold zdc;rw[z5q (f:=fun w:Wd=>z5t w.text) (k:=k) d (by assumption),Zr])
  ·(refine⟨_,?_,k+1,rfl,?_⟩);rotate_left;simp(disch:=omega)only[go_sem,Z0,e,g,true_and,Z5,Z3];rotate_left
   ·omega
   ·exact⟨by omega,z3d d c (by assumption)⟩
 ·repeat'(first|refine nxt ?_|((refine zqh fun K a=>?_);simp(disch:=omega)only[go_sem,Z0,↓reduceIte,e,g,z0f])|(refine zqd _ rfl ?_ ?_<;>intro b<;>(((try simp only[z05]at b);try omega)))|refine zqz ?_|refine zqU ?_|(refine a _ ?_;clear a K))
  refine z01 ?_;unfold zdc;rw[z3p (by omega) c,Y5,decide_eq_decide];omega
theorem zm5(t:T)(j:szB t=true):PC prog 298 [z0o t] (.bool (zja t)):=by
 obtain⟨n,o,h,q,i,r,_⟩:=(z1k t).1 j;have k:=zwc t.head (by unfold maxLen;omega) (fun w g=>by have:=h w g;unfold maxLen;omega);have l:=zwc t.words (by unfold maxLen;omega) (fun w g=>by have:=i w g;unfold maxLen;omega);have m:=zhy t.label (by unfold maxLen;omega);refine z14 1 (by simp only[pureD.pureL,z02,Z8]) rfl (zqzj [] func298 rfl (by decide+kernel) rfl ?_);unfold zja
 by_cases f:t.kind=0
 ·rw[if_pos f]
  repeat'(first|refine nxt ?_|((refine zqh fun K d=>?_);simp(disch:=omega)only[go_sem,Z0,↓reduceIte,reduceCtorEq,Z2,f])|(refine zqd _ rfl ?_ ?_<;>intro e<;>(first|(cases e;done)|((try omega))))|refine zqU ?_|(refine d _ ?_;clear d K)|(refine zqf (fun c=>?_) (fun c=>?_)<;>(have a:=c;try simp only[z05]at a)<;>((first|have b:=eq_false a|have b:=eq_true a);simp(disch:=omega)only[go_sem,Z0,↓reduceIte,reduceCtorEq,Z2,b,z0f];clear c b;try omega)))
  all_goals
   refine z01 ?_;unfold z3h
   first
    |(rw[decide_eq_true (p:=t.label=_) (by assumption),decide_eq_true (show t.head.length=0 by omega)];simp only[Zu,decide_eq_decide];omega)
    |(rw[decide_eq_true (p:=t.label=_) (by assumption),decide_eq_false (show ¬t.head.length=0 by omega)];rfl)
    |(rw[decide_eq_false (p:=t.label=_) (by assumption)];rfl)
 ·rw[if_neg f]
  repeat'(first|refine nxt ?_|((first|refine zqh fun K d=>?_|refine zqs (k) ?_|refine zqs (l) ?_|refine zqs (m) ?_);simp(disch:=omega)only[go_sem,Z0,↓reduceIte,reduceCtorEq,Z2])|(refine zqd _ rfl ?_ ?_<;>intro e<;>(((try simp only[z05]at e);try omega)))|refine zqU ?_|(refine d _ ?_;clear d K)|(refine zqf (fun c=>?_) (fun c=>?_)<;>(have a:=c;try simp only[z05]at a)<;>((first|have b:(_:Bool)=_:=a|have b:=eq_false a|have b:=eq_true a);simp(disch:=omega)only[go_sem,Z0,↓reduceIte,reduceCtorEq,Z2,c,b,z0f];clear c b;try omega)))
  all_goals
   refine z01 ?_
   first
    |(rw[decide_eq_false (p:=0<t.kind/\t.kind<=7) (by omega)];rfl)
    |(rw[decide_eq_true (p:=0<t.kind/\t.kind<=7) (by omega)];simp_all;done)
theorem zgf:∀t:T,szB t=true->cntT t<=1000000000->PC prog 88 [z0o t] (.int .i64 (cntT t)):=by
 refine z4a fun t q p g=>?_;obtain⟨w,x,u,y,v,z,n⟩:=(z1k t).1 p;have e:=z4f t;refine z14 1 (by simp only[pureD.pureL,z02,Z8]) rfl (zqzj [] func88 rfl (by decide+kernel) rfl ?_)
 repeat'(first|refine nxt ?_|((refine zqh fun K b=>?_);simp(disch:=omega)only[go_sem])|(refine b _ ?_;clear b K))
 (refine zqL (fun j c=>∃(i:_),j=t.kids.length-i/\c.t 1=.ptr 0 0/\c.t 3=.int .i64 (1+((t.kids.take i).flatMap z0c).length:Nat)/\c.t 4=.int .i64 i/\c.H 0=some (.box 27 (z08 t))/\(i<=t.kids.length)/\(1<=c.nx)) ?_ ?_);rintro j c ⟨i,rfl,k,l,m,d,r,s⟩;rotate_left
 ·(refine⟨_,0,rfl,?_⟩);simp(disch:=omega)only[go_sem,Z0,Z1,and_self,Z3,Z7,Zd]
  try simp
 have f:=fun(h:i<t.kids.length)=>q t.kids[i] (Z6 h) (n _ (Z6 h)) (by have:=zby (Z6 h);omega);have A:=z4g t.kids (i+1);have a:=fun(h:i<t.kids.length)=>z6n t.kids i h
 repeat'(first|refine nxt ?_|((first|refine zqh fun K b=>?_|refine zqr fun K b=>?_|refine zqs (f (by omega)) ?_);simp(disch:=omega)only[go_sem,Z0,↓reduceIte,reduceCtorEq,Z2,k,l,m,d,z0l])|(refine zqd _ rfl ?_ ?_<;>intro g<;>(((try simp only[z05]at g);try omega)))|refine zqz ?_|refine zqU ?_|(refine b _ ?_;clear b K))
 ·have a:=a (by omega);(refine⟨_,?_,i+1,rfl,?_⟩);rotate_left;simp(disch:=omega)only[go_sem,Z0,k,l,m,d,true_and,Z5,Z3,a];rotate_left
  ·omega
  ·exact⟨by omega,by omega,by omega⟩
 ·have o:i=t.kids.length:=by omega
  subst o;refine z1o ?_;rw[Zg,e]
theorem zyl:∀t:T,szB t=true->∀d:Nat,d<=100->PC prog 246 [z0o t,.int .i64 d] (.bool (zes t d)):=by
 refine z4a fun t Z Q d hd=>?_;have F:=zm5 t Q;obtain⟨h0,h1,g1,h2,g2,h3,X⟩:=(z1k t).1 Q;rw[shapeT_eq];refine z14 1 (by simp only[pureD.pureL,z02,pureD,Z8]) rfl (zqzj [] func246 rfl (by decide+kernel) rfl ?_)
 by_cases n:(decide (8<d) ||(decide (0<d)&&decide (t.kind=0)) || !zja t ||decide (64<t.kids.length))=true
 ·rw[n];simp only[z05]at n
  repeat'(first|refine nxt ?_|((first|refine z09 (N:=3) rfl fun K c=>?_|refine zqs (F) ?_);simp(disch:=omega)only[go_sem,Z0,↓reduceIte])|(refine zqd _ rfl ?_ ?_<;>intro o<;>(first|(cases o;done)|((try simp only[z05]at o);try omega)))|refine zqU ?_|(refine c _ ?_;clear c K)|(refine zqf (fun n=>?_) (fun n=>?_)<;>(have a:=n;try simp only[z05]at a)<;>((first|have b:(_:Bool)=_:=a|have b:=eq_false a|have b:=eq_true a);simp(disch:=omega)only[go_sem,Z0,↓reduceIte,reduceCtorEq,Z2,Z1,b,z0l];clear n b;try omega)))
  all_goals first
   |exact z01 rfl
   |(exfalso;simp_all;done)
   |(exfalso;simp_all;omega)
 ·rw[ZA]at n;rw[n];simp only[Bool.or_eq_false_iff,Bool.and_eq_false_iff,decide_eq_false_iff_not,Bool.not_eq_false']at n;obtain⟨⟨⟨b1,U⟩,W⟩,b4⟩:=n;rw[W]at F
  repeat'(first|refine nxt ?_|((first|refine z09 (N:=3) rfl fun K c=>?_|refine zqs (F) ?_);simp(disch:=omega)only[go_sem,Z0,↓reduceIte,reduceCtorEq,Z2,z0l])|(refine zqd _ rfl ?_ ?_<;>intro o<;>(((try simp only[z05]at o);try omega)))|(refine c _ ?_;clear c K)|(refine zqf (fun n=>?_) (fun n=>?_)<;>(have a:=n;try simp only[z05]at a)<;>((first|have b:=eq_false a|have b:=eq_true a);simp(disch:=omega)only[go_sem,Z0,↓reduceIte,reduceCtorEq,Z2,Z1,b];clear n b;try omega)))
  all_goals
   clear U;(refine z2a (fun g=>g.t 1=.int .i64 d/\g.t 2=.ptr 0 0/\g.H 0=some (.box 27 (z08 t))/\(1<=g.nx)) ?_ ?_);rotate_left;(rintro g ⟨p1,p2,L,a0⟩);rotate_left
   ·(simp(disch:=omega)only[go_sem,Z0,Z1,and_self])
   repeat'(first|((refine zqh fun K c=>?_);simp(disch:=omega)only[go_sem])|refine nxt ?_|(refine c _ ?_;clear c K))
   (refine zqL (fun w g=>∃(i:_),w=t.kids.length-i/\g.t 1=.int .i64 d/\g.t 2=.ptr 0 0/\g.t 5=.int .i64 i/\g.H 0=some (.box 27 (z08 t))/\(i<=t.kids.length)/\(1<=g.nx)/\((t.kids.take i).all (fun k=>z1h t.kind k.kind)=true)/\((t.kids.take i).all (fun k=>zes k (d+1))=true)/\(((t.kids.take i).map z5r).Nodup)) ?_ ?_);rintro w g ⟨i,rfl,R,M,O,s,a1,a2,x,y,u⟩;rotate_left
   ·(refine⟨_,0,rfl,?_⟩);simp(disch:=omega)only[go_sem,Z0,p1,p2,L,true_and,Z7,Zk];simp only[List.all_nil,List.nodup_nil,and_true];omega
   by_cases r:i<t.kids.length
   ·have I:=Z t.kids[i] (Z6 r) (X _ (Z6 r)) (d+1) (by omega);have Y:=zge t.kind t.kids[i].kind;have G:IntKind.i64.wrap ((d:Int)+1)=((d+1:Nat):Int):=by rw[zad (by omega)];rfl
    repeat'(first|refine nxt ?_|((first|refine zqh fun K c=>?_|refine zqs (Y) ?_|refine zqs (I) ?_);simp(disch:=omega)only[go_sem,Z0,↓reduceIte,reduceCtorEq,Z2,Z1,M,O,s,z0l])|(refine zqd _ rfl ?_ ?_<;>intro o<;>(first|(cases o;done)|((try simp only[z05]at o);try omega)))|refine zqU ?_|(refine c _ ?_;clear c K)|(refine zqf (fun n=>?_) (fun n=>?_)<;>(have a:=n;try simp only[z05]at a)<;>((have b:(_:Bool)=_:=a);simp(disch:=omega)only[go_sem,Z0,↓reduceIte,Z2,Z1,b,R,G];clear n b;try omega)))
    ·exact z01 (by rw[z5q (f:=fun k:T=>zes k (d+1)) (k:=i) r (by assumption),ZZ,Zr,Zr])
    ·(refine zqL (fun w g=>∃(k:_) (m:Nat),w=i-k/\g.t 1=.int .i64 d/\g.t 2=.ptr 0 0/\g.t 5=.int .i64 i/\g.t 6=.ptr m 0/\g.t 7=.int .i64 k/\g.H 0=some (.box 27 (z08 t))/\g.H (m)=some (.box 27 (z08 t.kids[i]))/\(k<=i)/\(0<m)/\(m<g.nx)/\(∀j,(C:j<k)->(h:j<t.kids.length)->z5r t.kids[j]≠z5r t.kids[i])) ?_ ?_);rintro w g ⟨k,m,rfl,P,z,A,E,B,p,q,a3,a4,a5,v⟩;rotate_left
     ·(refine⟨_,0,g.nx,rfl,?_⟩);simp(disch:=omega)only[go_sem,Z0,R,M,O,s,true_and,Z5,Z3,Z7];exact⟨by omega,by omega,fun j C=>by omega⟩
     by_cases hk:k<i
     ·repeat'(first|refine nxt ?_|((first|refine zqh fun K c=>?_|refine zqe (by decide+kernel) fun K c=>?_|refine zqr fun K c=>?_);simp(disch:=omega)only[go_sem,Z0,↓reduceIte,reduceCtorEq,Z2,z,A,E,B,p,q,z0l])|((first|refine zqd _ rfl (fun o=>?_) (fun o=>?_)|refine zqm _ rfl (fun o=>?_) (fun o=>?_))<;>(first|(cases o;done)|((try simp only[z05]at o);try omega)))|refine zqU ?_|(refine c _ ?_;clear c K)|(refine zqf (fun n=>?_) (fun n=>?_)<;>(have a:=n;try simp only[z05]at a)<;>((first|have b:=eq_false a|have b:=eq_true a);simp(disch:=omega)only[go_sem,Z0,↓reduceIte,reduceCtorEq,Z2,b,z,E,B,p,q,z0l];clear n b;try omega)))
      ·refine z01 ?_;have J:=zib (f:=z5r) (l:=t.kids) (j:=k) (k:=i) (by omega) r (by unfold z5r;rw[‹t.kids[k].kind=t.kids[i].kind›,‹t.kids[k].label=t.kids[i].label›]);rw[decide_eq_false J,Zr,Zr,Zr]
      ·(refine⟨_,?_,k+1,m,rfl,?_⟩);rotate_left;simp(disch:=omega)only[go_sem,Z0,P,z,A,E,B,p,q,true_and,Z5,Z3];rotate_left
       ·omega
       ·refine⟨by omega,by omega,by omega,fun j C h=>?_⟩
        by_cases e:j=k
        ·subst e;exact fun h=>absurd (congrArg Yo h) (by assumption)
        ·exact v j (by omega) h
      ·(refine⟨_,?_,k+1,m,rfl,?_⟩);rotate_left;simp(disch:=omega)only[go_sem,Z0,P,z,A,E,B,p,q,true_and,Z5,Z3];rotate_left
       ·omega
       ·refine⟨by omega,by omega,by omega,fun j C h=>?_⟩
        by_cases e:j=k
        ·subst e;exact fun h=>absurd (congrArg Prod.fst h) (by assumption)
        ·exact v j (by omega) h
     ·repeat'(first|refine nxt ?_|((first|refine zqh fun K c=>?_|refine zqr fun K c=>?_);simp(disch:=omega)only[go_sem,Z0,↓reduceIte,A,B])|(refine zqd _ rfl ?_ ?_<;>intro o<;>(((try simp only[z05]at o);try omega)))|refine zqz ?_|(refine c _ ?_;clear c K))
      (refine⟨_,?_,i+1,rfl,?_⟩);rotate_left;simp(disch:=omega)only[go_sem,Z0,true_and,Z5,Z3,P,z,A,p];rotate_left
      ·omega
      ·exact⟨by omega,by omega,z3d r x (by assumption),z3d r y (by assumption),zd5 r u (fun j C=>v j (by omega) (by omega))⟩
    ·exact z01 (by rw[z5q (f:=fun k:T=>z1h t.kind k.kind) (k:=i) r (by assumption),ZZ,Zr])
   ·skip
    repeat'(first|refine nxt ?_|((refine zqh fun K c=>?_);simp(disch:=omega)only[go_sem,Z0,↓reduceIte,reduceCtorEq,Z2,M,O,s,z0l])|(refine zqd _ rfl ?_ ?_<;>intro o<;>(((try simp only[z05]at o);try omega)))|refine zqz ?_|refine zqU ?_|(refine c _ ?_;clear c K))
    refine z01 ?_;rw[z3p (by omega) x,z3p (by omega) y];rw[Zl (by omega)]at u;rw[decide_eq_true u];rfl
theorem zmr(t:T)(f:szB t=true)(h:cntT t<=1000000000):PC prog 156 [z0o t] (.bool (zpn t)):=by
 have d:=zyl t f 0 (by omega);have g:=zgf t f h;refine z14 1 (by simp only[pureD.pureL,z02,Z8]) rfl (zqzj [] func156 rfl (by decide+kernel) rfl ?_);unfold zpn;have i:((0:Nat):Int)=0:=rfl;rw[i]at d
 repeat'(first|((first|refine zqh fun K e=>?_|refine zqs (d) ?_|refine zqs (g) ?_);simp(disch:=omega)only[go_sem,Z0,↓reduceIte,Z2,Z1])|refine nxt ?_|refine zqU ?_|(refine e _ ?_;clear e K)|(refine zqf (fun b=>?_) (fun b=>?_)<;>(have a:=b;try simp only[z05]at a)<;>((have c:(_:Bool)=_:=a);simp(disch:=omega)only[go_sem,Z0,↓reduceIte,Z2,Z1,b];clear b c;try omega)))
 ·refine z01 ?_;rw[‹zes t 0=true›,Zu,decide_eq_decide];omega
 ·exact z01 (by rw[‹zes t 0=false›];rfl)
namespace Tr
theorem zfq(l:List Wd)(w:Wd):zy7 (l++[w])=zy7 l++b1 32++escB w.text:=by unfold zy7;rw[ZB];rfl
theorem z78(a b:ByteArray):(a++b).size=a.size+b.size:=ByteArray.size_append
theorem esc_size(s:ByteArray):(escB s).size<=s.size+1:=by
 unfold escB;split
 ·rw[z78];show (b1 92).size+_<=_;rw[show (b1 92).size=1 from rfl];omega
 ·omega
theorem zsh{l:List Wd}{m:Nat}(h:∀w∈l,w.text.size<=m):(zy7 l).size<=l.length*(m+2):=by
 have a:∀(n:Nat),n<=l.length->(zy7 (l.take n)).size<=n*(m+2):=fun n=>by
  induction n with
  |zero=>intro _;show Zw.size<=_;simp
  |succ n b =>
   intro g;rw[Z4 (by omega),zfq,z78,z78];have c:=b (by omega);have d:=esc_size l[n].text;have e:=h _ (Z6 (l:=l) (n:=n) (by omega));have f:(b1 32).size=1:=rfl;rw[Yt];omega
 have:=a l.length (ZH _);rwa [Zg]at this
theorem zkm:∀n,(twoX n).size=2*n
 |0=>rfl
 |n+1=>by rw[twoX,z78,zkm n];show _+2=_;omega
theorem zms{t:T}(h:zja t=true):t.kind=0 \/ ((0<t.kind/\t.kind<=7)/\zdc t.head=true/\zdc t.words=true):=by
 unfold zja at h;split at h
 ·exact .inl (by assumption)
 ·simp only[Zj,decide_eq_true_eq]at h;exact .inr ⟨h.1,h.2.2.1,h.2.2.2⟩
theorem esc_yes{s:ByteArray}(h:0<(bl s).length)(h2:(((bl s)[0]'h).toNat:Int)=124 \/ (((bl s)[0]'h).toNat:Int)=92):escB s=b1 92++s:=by
 have e:(bl s).headD 0=(bl s)[0]'h:=(bhead (s:=s) h).symm;unfold escB;rw[e,if_pos];rcases h2 with h2|h2
 ·exact .inl (UInt8.toNat.inj (by show _=124;omega))
 ·exact .inr (UInt8.toNat.inj (by show _=92;omega))
theorem esc_not{s:ByteArray}(h:0<(bl s).length)(a:¬(((bl s)[0]'h).toNat:Int)=124)(b:¬(((bl s)[0]'h).toNat:Int)=92):escB s=s:=by
 have e:(bl s).headD 0=(bl s)[0]'h:=(bhead (s:=s) h).symm;unfold escB;rw[e,if_neg];rintro(g|g)
 ·rw[g]at a;exact a rfl
 ·rw[g]at b;exact b rfl
end Tr
theorem zmt(l:List Wd)(F:l.length<=1000000)(u:∀w∈l,1<=w.text.size/\w.text.size<=1000000):PC prog 320 [z0f l] (.str (zy7 l)):=by
 refine z14 1 (by simp only[pureD.pureL,z0g,Z8]) rfl (zqzj [] func320 rfl (by decide+kernel) rfl ?_)
 repeat'(first|refine nxt ?_|((refine zqh fun K b=>?_);simp(disch:=omega)only[go_sem,z0f])|(refine b _ ?_;clear b K))
 (refine zqL (fun y n=>∃(k:_),y=l.length-k/\n.t 0=z0f l/\n.t 3=.str (zy7 (l.take k))/\n.t 4=.int .i64 k/\(k<=l.length)) ?_ ?_);rintro y n ⟨k,rfl,g,h,i,E⟩;rotate_left
 ·(refine⟨_,0,rfl,?_⟩);simp(disch:=omega)only[go_sem,Z0,true_and,and_true,and_self,Z7,z0f]
  try rfl
 by_cases s:k<l.length
 ·have v:=u _ (Z6 s);have e:=Z4 s;have C:(zy7 (l.take k)).size<=1000000*1000002:=by
   have z:=zsh (l:=l.take k) (m:=1000000) fun w v=>(u w (List.mem_of_mem_take v)).2;have A:(l.take k).length<=1000000:=by rw[ZE];omega
   exact Zt z (Y0 _ A)
  have x:ZO 0=0:=rfl;have p:(#[92]:Array UInt8).size=1:=rfl;have o:(#[32]:Array UInt8).size=1:=rfl;have B:=z22 l[k].text;have a:0<(bl l[k].text).length:=by omega
  repeat'(first|refine nxt ?_|((first|refine zqh fun K b=>?_|refine zqr fun K b=>?_);simp(disch:=omega)only[go_sem,Z0,↓reduceIte,reduceCtorEq,Z2,Z1,ZJ,g,h,i,z0f,zt0,x,z78,p,o])|(refine zqd _ rfl ?_ ?_<;>intro j<;>(first|(cases j;done)|((try simp only[z05]at j);try omega)))|(refine b _ ?_;clear b K)|(refine zqf (fun q=>?_) (fun q=>?_)<;>(have c:=q;try simp only[z05]at c)<;>((first|have d:=eq_false c|have d:=eq_true c);simp(disch:=omega)only[go_sem,Z0,↓reduceIte,ZJ,d,zt0,x];clear q d;try omega)))
  ·have f:=esc_yes a (.inr (by assumption));(refine⟨_,?_,k+1,rfl,?_⟩);rotate_left;simp(disch:=omega)only[go_sem,Z0,g,h,i,true_and,Z5,Z3,e,zfq,f];rotate_left
   ·omega
   ·exact⟨rfl,by omega⟩
  ·have f:=esc_not a (by assumption) (by assumption);(refine⟨_,?_,k+1,rfl,?_⟩);rotate_left;simp(disch:=omega)only[go_sem,Z0,g,h,i,true_and,Z5,Z3,e,zfq,f];rotate_left
   ·omega
   ·exact⟨rfl,by omega⟩
  ·have f:=esc_yes a (.inl (by assumption));(refine⟨_,?_,k+1,rfl,?_⟩);rotate_left;simp(disch:=omega)only[go_sem,Z0,g,h,i,true_and,Z5,Z3,e,zfq,f];rotate_left
   ·omega
   ·exact⟨rfl,by omega⟩
 ·repeat'(first|refine nxt ?_|((refine zqh fun K b=>?_);simp(disch:=omega)only[go_sem,Z0,↓reduceIte,g,h,i,z0f])|(refine zqd _ rfl ?_ ?_<;>intro j<;>(((try simp only[z05]at j);try omega)))|refine zqz ?_|refine zqU ?_|(refine b _ ?_;clear b K))
  have r:k=l.length:=by omega
  subst r;rw[Zg];exact z06 rfl (XX _)
def nmsD:List D:=nameL.map .str
theorem pc_Names7:PC prog 319 [] (.rsl true 1 nmsD):=by
 refine z14 2 rfl rfl (zqzj [] func319 rfl (by decide+kernel) rfl ?_)
 repeat'(first|((refine zqh fun K a=>?_);simp(disch:=omega)only[go_sem,Z0,↓reduceIte,reduceCtorEq,Z2,Z1])|refine nxt ?_|refine zqU ?_|(refine a _ ?_;clear a K))
 exact z06 rfl (XX _)
theorem nms_at{k:Int}(h:0<=k/\k<8):zv6 nmsD k=some (.str (zgr k)):=by
 rcases zry h with rfl|rfl|rfl|rfl|rfl|rfl|rfl|rfl<;>rfl
theorem zsi(k:Int):(zgr k).size<=9:=by
 unfold zgr;split
 ·rename_i h;rcases zry h with rfl|rfl|rfl|rfl|rfl|rfl|rfl|rfl<;>decide
 ·decide
namespace Tr
theorem zx7{l:List Wd}(h:zdc l=true):∀w∈l,1<=w.text.size/\w.text.size<=1000000:=fun w a=>by
 unfold zdc at h;simp only[Zj,decide_eq_true_eq,ZC]at h;have:=h.2 w a;unfold z5t at this;simp only[Zj,decide_eq_true_eq]at this;omega
theorem zih{l:List Wd}(a:l.length<=1000000)(h:∀w∈l,w.text.size<=1000000):(zy7 l).size<=1000002000000:=by
 have:=zsh h;exact Zt this (Y0 _ a)
theorem zzx{t:T}(f:szB t=true)(d:Nat):(zho t d).size<=2000010000000:=by
 obtain⟨o,c,a,e,b,p,_⟩:=(z1k t).1 f;have g:=zih c a;have i:=zih e b;have j:=zsi t.kind;have k:(b1 32).size=1:=rfl;have l:(b1 58).size=1:=rfl;have m:(⟨#[32,124]⟩:ByteArray).size=2:=rfl;unfold zho;split
 ·show Zw.size<=_;decide
 ·rename_i h;have n:=zkm d;simp only;split<;>split<;>split<;>simp only[z78]<;>omega
end Tr
theorem pc_Line11(t:T)(Q:szB t=true)(d:Nat)(hd:d<=100):PC prog 299 [z0o t,.int .i64 d] (.str (zho t d)):=by
 obtain⟨h0,M,X,O,Y,h3,_⟩:=(z1k t).1 Q;have y:=zm5 t Q;have u:=pc_Names7;refine z14 2 (by simp only[pureD.pureL,z02,pureD,Z8]) rfl (zqzj [] func299 rfl (by decide+kernel) rfl ?_)
 by_cases hb:zja t=false \/ 8<d
 ·have hx:zho t d=Zw:=by unfold zho;rw[if_pos hb]
  rw[hx];rcases hb with hb|hb
  ·rw[hb]at y
   repeat'(first|refine nxt ?_|((first|refine z09 (N:=3) rfl fun K a=>?_|refine zqs (y) ?_);simp(disch:=omega)only[go_sem,Z0,↓reduceIte])|(refine zqd _ rfl ?_ ?_<;>intro e<;>(first|(cases e;done)|((try omega))))|refine zqU ?_|(refine a _ ?_;clear a K)|(refine zqf (fun hb=>?_) (fun hb=>?_)<;>(have b:=hb;try simp only[z05]at b)<;>((first|have c:=eq_false b|have c:=eq_true b);simp(disch:=omega)only[go_sem,Z0,↓reduceIte,Z2,Z1,c];clear hb c;try omega)))
   all_goals first
    |exact z06 rfl (XX _)
    |(exfalso;omega)
  ·repeat'(first|refine nxt ?_|((refine z09 (N:=3) rfl fun K a=>?_);simp(disch:=omega)only[go_sem,Z0,↓reduceIte])|(refine zqd _ rfl ?_ ?_<;>intro e<;>(first|(cases e;done)|((try omega))))|refine zqU ?_|(refine a _ ?_;clear a K)|(refine zqf (fun hb=>?_) (fun hb=>?_)<;>(have b:=hb;try simp only[z05]at b)<;>((first|have c:=eq_false b|have c:=eq_true b);simp(disch:=omega)only[go_sem,Z0,↓reduceIte,Z2,Z1,c];clear hb c;try omega)))
   all_goals first
    |exact z06 rfl (XX _)
    |(exfalso;omega)
 ·simp only[not_or,Y7]at hb;obtain⟨hb,a0⟩:=hb;rw[hb]at y
  repeat'(first|refine nxt ?_|((first|refine z09 (N:=3) rfl fun K a=>?_|refine zqs (y) ?_);simp(disch:=omega)only[go_sem,Z0,↓reduceIte])|(refine zqd _ rfl ?_ ?_<;>intro e<;>(first|(cases e;done)|((try omega))))|(refine a _ ?_;clear a K)|(refine zqf (fun hb=>?_) (fun hb=>?_)<;>(have b:=hb;try simp only[z05]at b)<;>((first|have c:=eq_false b|have c:=eq_true b);simp(disch:=omega)only[go_sem,Z0,↓reduceIte,Z2,Z1,c];clear hb c;try omega)))
  (refine z2a (fun k=>k.t 1=.int .i64 d/\k.t 2=.ptr 0 0/\k.H 0=some (.box 27 (z08 t))/\k.nx=1) ?_ ?_);rotate_left;(rintro k ⟨p1,p2,I,J⟩);rotate_left
  ·(simp(disch:=omega)only[go_sem,Z0,and_self])
  repeat'(first|refine nxt ?_|((refine zqh fun K a=>?_);simp(disch:=omega)only[go_sem,J])|(refine a _ ?_;clear a K))
  (refine zqL (fun R k=>∃(i:_),R=d-i/\k.t 1=.int .i64 d/\k.t 2=.ptr 0 0/\k.t 5=.str (twoX i)/\k.t 6=.int .i64 i/\k.H 0=some (.box 27 (z08 t))/\k.nx=1/\(i<=d)) ?_ ?_);rintro R k ⟨i,rfl,o,r,p,q,g,j,a1⟩;rotate_left
  ·(refine⟨_,0,rfl,?_⟩);simp(disch:=omega)only[go_sem,Z0,p1,p2,I,true_and,and_true,and_self,Z7]
   rfl
  have Z:=zkm i;have A:(#[32,32]:Array UInt8).size=2:=rfl
  by_cases hi:i<d
  ·repeat'(first|refine nxt ?_|((first|refine zqh fun K a=>?_|refine zqr fun K a=>?_);simp(disch:=omega)only[go_sem,Z0,↓reduceIte,Z1,o,p,q,j,A])|(refine zqd _ rfl ?_ ?_<;>intro e<;>(((try simp only[z05]at e);try omega)))|(refine a _ ?_;clear a K))
   (refine⟨_,?_,i+1,rfl,?_⟩);rotate_left;simp(disch:=omega)only[go_sem,Z0,o,r,p,q,g,true_and,Z5,Z3];rotate_left
   ·omega
   ·exact⟨rfl,by omega⟩
  ·have C:0<=t.kind/\t.kind<8:=by
    rcases zms hb with h|h<;>omega
   have f:=nms_at C;have E:=zsi t.kind;have B:i=d:=by omega
   subst B;have w:¬(zja t=false \/ 8<i):=by rw[hb];simp;omega
   have l:(#[32]:Array UInt8).size=1:=rfl;have v:(#[58]:Array UInt8).size=1:=rfl;have L:(#[32,124]:Array UInt8).size=2:=rfl
   by_cases m:t.kind=0
   ·have z:t.head.length=0/\t.words.length=0:=by
     unfold zja at hb;rw[if_pos m]at hb;simp only[z05]at hb;exact⟨hb.2.1,hb.2.2⟩
    have n:zho t i=twoX i++zgr t.kind:=by
     unfold zho;rw[if_neg w];simp only[if_pos m,z.1,z.2,Y4,if_false]
    rw[n,m];rw[m]at f E
    repeat'(first|refine nxt ?_|((first|refine zqh fun K a=>?_|refine zqe (by decide+kernel) fun K a=>?_|refine zqt (u) ?_);simp(disch:=omega)only[go_sem,Z0,↓reduceIte,reduceCtorEq,Z2,o,r,p,q,g,j,z0f,f,m,z.1,z.2])|(refine zqd _ rfl ?_ ?_<;>intro e<;>(first|(cases e;done)|((try simp only[z05]at e);try omega)))|refine zqz ?_|refine zqU ?_|(refine a _ ?_;clear a K))
    exact z06 rfl (XX _)
   ·obtain⟨_,F,G⟩:=(zms hb).resolve_left m;have U:=zmt t.head M (zx7 F);have W:=zmt t.words O (zx7 G);have s1:=zih M X;have s2:=zih O Y;have n:zho t i=(let s:=twoX i++zgr t.kind++b1 32++t.label;let s:=if 0<t.head.length then s++b1 58++zy7 t.head else s;if 0<t.words.length then s++⟨#[32,124]⟩++zy7 t.words else s):=by
     unfold zho;rw[if_neg w];simp only[if_neg m]
    rw[n];simp only
    by_cases P:0<t.head.length
    ·rw[if_pos P]
     by_cases x:0<t.words.length
     ·rw[if_pos x]
      repeat'(first|refine nxt ?_|((first|refine zqh fun K a=>?_|refine zqe (by decide+kernel) fun K a=>?_|refine zqt (u) ?_|refine zqs (U) ?_|refine zqs (W) ?_);simp(disch:=omega)only[go_sem,Z0,↓reduceIte,reduceCtorEq,Z2,Z1,o,r,p,q,g,j,z0f,f,z78,l,v,L])|(refine zqd _ rfl ?_ ?_<;>intro e<;>(((try simp only[z05]at e);try omega)))|refine zqz ?_|refine zqU ?_|(refine a _ ?_;clear a K))
      exact z06 rfl (XX _)
     ·rw[if_neg x]
      repeat'(first|refine nxt ?_|((first|refine zqh fun K a=>?_|refine zqe (by decide+kernel) fun K a=>?_|refine zqt (u) ?_|refine zqs (U) ?_);simp(disch:=omega)only[go_sem,Z0,↓reduceIte,reduceCtorEq,Z2,Z1,o,r,p,q,g,j,z0f,f,z78,l,v])|(refine zqd _ rfl ?_ ?_<;>intro e<;>(((try simp only[z05]at e);try omega)))|refine zqz ?_|refine zqU ?_|(refine a _ ?_;clear a K))
      exact z06 rfl (XX _)
    ·rw[if_neg P]
     by_cases x:0<t.words.length
     ·rw[if_pos x]
      repeat'(first|refine nxt ?_|((first|refine zqh fun K a=>?_|refine zqe (by decide+kernel) fun K a=>?_|refine zqt (u) ?_|refine zqs (W) ?_);simp(disch:=omega)only[go_sem,Z0,↓reduceIte,reduceCtorEq,Z2,Z1,o,r,p,q,g,j,z0f,f,z78,l,L])|(refine zqd _ rfl ?_ ?_<;>intro e<;>(((try simp only[z05]at e);try omega)))|refine zqz ?_|refine zqU ?_|(refine a _ ?_;clear a K))
      exact z06 rfl (XX _)
     ·rw[if_neg x]
      repeat'(first|refine nxt ?_|((first|refine zqh fun K a=>?_|refine zqe (by decide+kernel) fun K a=>?_|refine zqt (u) ?_);simp(disch:=omega)only[go_sem,Z0,↓reduceIte,reduceCtorEq,Z2,Z1,o,r,p,q,g,j,z0f,f,z78,l])|(refine zqd _ rfl ?_ ?_<;>intro e<;>(((try simp only[z05]at e);try omega)))|refine zqz ?_|refine zqU ?_|(refine a _ ?_;clear a K))
      exact z06 rfl (XX _)
namespace Tr
theorem zkn:∀t:T,∀d:Nat,(z6i t d).length=cntT t:=by
 refine z4a fun t e d=>?_;rw[zjb,Za,z4f];have b:∀l:List T,(∀k∈l,∀d:Nat,(z6i k d).length=cntT k)->(l.flatMap fun k=>z6i k (d+1)).length=(l.flatMap z0c).length:=fun l=>by
  induction l with
  |nil=>intro _;rfl
  |cons k l a =>
   intro h;rw[Zc,Zc,Z9,Z9,h k (by simp),a fun q c=>h q (Y1 _ c)];rfl
 rw[b t.kids e];omega
theorem zzy:∀t:T,szB t=true->∀d:Nat,∀s∈z6i t d,s.size<=2000010000000:=by
 refine z4a fun t c b d s h=>?_;rw[zjb,Y3]at h;rcases h with rfl|h
 ·exact zzx b d
 ·obtain⟨k,a,h⟩:=Y8.1 h;exact c k a ((z79 b).2 k a) (d+1) s h
theorem zmu(l:List ByteArray)(w:ByteArray):zpo (l++[w])=zpo l++w++b1 10:=by unfold zpo;rw[ZB];rfl
theorem zzz{l:List ByteArray}{m:Nat}(h:∀s∈l,s.size<=m):∀n,n<=l.length->(zpo (l.take n)).size<=n*(m+1):=fun n=>by
 induction n with
 |zero=>intro _;show Zw.size<=_;simp
 |succ n a =>
  intro e;rw[Z4 (by omega),zmu,z78,z78];have b:=a (by omega);have c:=h _ (Z6 (l:=l) (n:=n) (by omega));have d:(b1 10).size=1:=rfl;rw[Yt];omega
end Tr
theorem z000:∀t:T,szB t=true->cntT t<=1000000->∀d:Nat,d+depT t<=100->PC prog 247 [z0o t,.int .i64 d] (z1n (z6i t d)):=by
 refine z4a fun t G u g d U=>?_;obtain⟨N,O,L,P,M,Q,y⟩:=(z1k t).1 u;have B:=z4f t;have x:=pc_Line11 t u d (by omega);rw[zjb];refine z14 2 (by simp only[pureD.pureL,z02,pureD,Z8]) (z1q _) (zqzj [10] func247 rfl (by decide+kernel) rfl ?_)
 repeat'(first|refine nxt ?_|((first|refine zqh fun K a=>?_|refine zqs (x) ?_);simp(disch:=omega)only[go_sem,Z0,↓reduceIte,reduceCtorEq,Z2,Z1])|(refine a _ ?_;clear a K))
 (refine zqL (fun v c=>∃(i:_),v=t.kids.length-i/\c.t 1=.int .i64 d/\c.t 2=.ptr 0 0/\c.t 5=.osl 1 (1+((t.kids.take i).flatMap fun k=>z6i k (d+1)).length)/\c.t 6=.int .i64 i/\c.H 0=some (.box 27 (z08 t))/\c.H 1=some (.row 9 (1+((t.kids.take i).flatMap fun k=>z6i k (d+1)).length) ((zho t d::(t.kids.take i).flatMap fun k=>z6i k (d+1)).map .str))/\(i<=t.kids.length)/\(2<=c.nx)) ?_ ?_);rintro v c ⟨i,rfl,w,q,r,s,e,b,I,J⟩;rotate_left
 ·(refine⟨_,0,rfl,?_⟩);simp(disch:=omega)only[go_sem,Z0,Z1,and_self,Z7,Zd,Zk]
  try simp
 have R:=z4g t.kids (i+1);have p:∀l:List T,(l.flatMap fun k=>z6i k (d+1)).length=(l.flatMap z0c).length:=fun l=>by
  induction l with
  |nil=>rfl
  |cons k l o=>rw[Zc,Zc,Z9,Z9,zkn,o];rfl
 have z:=p (t.kids.take i);have A:=z4g t.kids i
 by_cases f:i<t.kids.length
 ·have F:=z50 (Z6 f);have m:=G t.kids[i] (Z6 f) (y _ (Z6 f)) (by have:=zby (Z6 f);omega) (d+1) (by omega);have C:=zby (Z6 f);have E:=zkn t.kids[i] (d+1);have n:(t.kids.take (i+1)).flatMap (fun k=>z6i k (d+1))=(t.kids.take i).flatMap (fun k=>z6i k (d+1))++z6i t.kids[i] (d+1):=by
   rw[Z4 f,Zb];simp
  have h:IntKind.i64.wrap ((d:Int)+1)=((d+1:Nat):Int):=by rw[zad (by omega)];rfl
  repeat'(first|refine nxt ?_|((first|refine zqh fun K a=>?_|refine zqr fun K a=>?_|refine zqs (m) ?_);simp(disch:=omega)only[go_sem,Z0,↓reduceIte,reduceCtorEq,Z2,Zs,w,q,r,s,e,b,z0l,z1n,h])|(refine zqd _ rfl ?_ ?_<;>intro g<;>(((try simp only[z05]at g);try omega)))|(refine a _ ?_;clear a K))
  (refine⟨_,?_,i+1,rfl,?_⟩);rotate_left;simp(disch:=omega)only[go_sem,Z0,w,q,r,s,e,b,true_and,Z5,Z3,Zy,Zf,n,Z9,ZK];rotate_left
  ·omega
  ·exact⟨by omega,by omega⟩
 ·repeat'(first|refine nxt ?_|((refine zqh fun K a=>?_);simp(disch:=omega)only[go_sem,Z0,↓reduceIte,reduceCtorEq,Z2,q,r,s,e,z0l])|(refine zqd _ rfl ?_ ?_<;>intro g<;>(((try simp only[z05]at g);try omega)))|refine zqz ?_|refine zqU ?_|(refine a _ ?_;clear a K))
  have j:i=t.kids.length:=by omega
  subst j;rw[Zg]at b;rw[Zg];exact z3j (z8j 0 b z7q zbz (by simp;omega) (zi5 _))
theorem z001(t:T)(e:szB t=true)(a:cntT t<=1000000)(h:depT t<=100)(f:zpn t=true):PC prog 157 [z0o t] (z1n (z6i t 0)):=by
 have b:=zmr t e (by omega);have c:=z000 t e a 0 (by omega);have g:((0:Nat):Int)=0:=rfl;rw[g]at c;rw[f]at b;refine z14 1 (by simp only[pureD.pureL,z02,Z8]) (z1q _) (zqzj [] func157 rfl (by decide+kernel) rfl ?_)
 repeat'(first|refine nxt ?_|((first|refine zqh fun K d=>?_|refine zqs (b) ?_|refine zqs (c) ?_);simp(disch:=omega)only[go_sem,Z0,↓reduceIte,Z2,Z1])|(refine zqd _ rfl ?_ ?_<;>intro a<;>(first|(cases a;done)|((try omega))))|refine zqU ?_|(refine d _ ?_;clear d K))
 exact z06 (z1q _) (XX _)
theorem pc_Text11(t:T)(o:szB t=true)(b:cntT t<=1000000)(v:depT t<=100):PC prog 80 [z0o t] (.tup [.str (textT t).1,.int .i64 (textT t).2]):=by
 have f:=zmr t o (by omega);refine z14 3 (by simp only[pureD.pureL,z02,Z8]) rfl (zqzj [] func80 rfl (by decide+kernel) rfl ?_);rw[show Tryz.f80.results.toList=[.tmp 2,.tmp 3] from rfl];unfold textT;cases l:zpn t with
 |false =>
  rw[if_pos rfl];rw[l]at f
  repeat'(first|refine nxt ?_|((first|refine zqh fun K a=>?_|refine zqs (f) ?_);simp(disch:=omega)only[go_sem,Z0,↓reduceIte,Z2,Z1])|(refine zqd _ rfl ?_ ?_<;>intro b<;>(first|(cases b;done)|((try omega))))|refine zqu (by(simp(disch:=omega)only[go_sem,Z0]);rfl) rfl ?_|(refine a _ ?_;clear a K))
  exact z06 rfl (XX _)
 |true =>
  rw[if_neg (by simp)];have r:=z001 t o b v l;rw[l]at f;have n:=zkn t 0;have d:=zzy t o 0;generalize z6i t 0=L at r n d⊢
  repeat'(first|refine nxt ?_|((first|refine zqh fun K a=>?_|refine zqs (f) ?_|refine zqs (r) ?_);simp(disch:=omega)only[go_sem,Z0,↓reduceIte,Z2,Z1])|(refine zqd _ rfl ?_ ?_<;>intro b<;>(first|(cases b;done)|((try omega))))|(refine a _ ?_;clear a K))
  (refine zqL (fun u i=>∃(k:_),u=L.length-k/\i.t 4=z1n L/\i.t 5=.str (zpo (L.take k))/\i.t 6=.int .i64 k/\(k<=L.length)) ?_ ?_);rintro u i ⟨k,rfl,g,e,h,w⟩;rotate_left
  ·(refine⟨_,0,rfl,?_⟩);simp(disch:=omega)only[go_sem,Z0,true_and,and_true,and_self,Z7,z1n]
   try rfl
  have p:=zzz d
  by_cases s:k<L.length
  ·have x:=p k (by omega);have y:=d _ (Z6 s);have z:k*(2000010000000+1)<=1000000*(2000010000000+1):=Y0 _ (by omega);have q:=Z4 s;have j:(#[10]:Array UInt8).size=1:=rfl
   repeat'(first|refine nxt ?_|((first|refine zqh fun K a=>?_|refine zqr fun K a=>?_);simp(disch:=omega)only[go_sem,Z0,↓reduceIte,reduceCtorEq,Z2,Z1,g,e,h,z1n,z78,j])|(refine zqd _ rfl ?_ ?_<;>intro b<;>(((try simp only[z05]at b);try omega)))|(refine a _ ?_;clear a K))
   (refine⟨_,?_,k+1,rfl,?_⟩);rotate_left;simp(disch:=omega)only[go_sem,Z0,g,e,h,true_and,Z5,Z3,q,zmu];rotate_left
   ·omega
   ·exact⟨rfl,by omega⟩
  ·have m:k=L.length:=by omega
   subst m;rw[Zg]at e
   by_cases c:16384<(zpo L).size
   ·rw[if_pos c]
    repeat'(first|refine nxt ?_|((refine zqh fun K a=>?_);simp(disch:=omega)only[go_sem,Z0,↓reduceIte,g,e,h,z1n])|(refine zqd _ rfl ?_ ?_<;>intro b<;>(((try simp only[z05]at b);try omega)))|refine zqz ?_|refine zqu (by(simp(disch:=omega)only[go_sem,Z0]);rfl) rfl ?_|(refine a _ ?_;clear a K))
    exact z06 rfl (XX _)
   ·rw[if_neg c]
    repeat'(first|refine nxt ?_|((refine zqh fun K a=>?_);simp(disch:=omega)only[go_sem,Z0,↓reduceIte,g,e,h,z1n])|(refine zqd _ rfl ?_ ?_<;>intro b<;>(((try simp only[z05]at b);try omega)))|refine zqz ?_|refine zqu (by(simp(disch:=omega)only[go_sem,Z0]);rfl) rfl ?_|(refine a _ ?_;clear a K))
    exact z06 rfl (XX _)
theorem zaj(n a b:Int):PC prog 74 [.int .i64 n,.int .i64 a,.int .i64 b] (.bool (inB n a b)):=by
 refine z14 1 rfl rfl (zqzj [] func74 rfl (by decide+kernel) rfl ?_)
 repeat'(first|((refine zqh fun K f=>?_);simp(disch:=omega)only[go_sem,Z0,↓reduceIte])|refine nxt ?_|refine zqU ?_|(refine f _ ?_;clear f K)|(refine zqf (fun e=>?_) (fun e=>?_)<;>(have c:=e;try simp only[z05]at c)<;>((first|have d:=eq_false c|have d:=eq_true c);simp(disch:=omega)only[go_sem,Z0,↓reduceIte,d];clear e d;try omega)))
 all_goals first|exact z01 (decide_eq_true (by omega)).symm|exact z01 (decide_eq_false (by omega)).symm|exact z01 (decide_eq_decide.2 (by omega))
theorem zrd(a b:List Stp)(o:a.length<=maxLen)(p:b.length<=maxLen):PC prog 152 [z0k a,z0k b] (.bool (decide (a=b))):=by
 unfold maxLen at o p;have g:∀x y:Stp,(decide (x.kind=y.kind)&&decide (x.label=y.label))=decide (x=y):=fun x y=>by
  obtain⟨a,b⟩:=x;obtain⟨r,s⟩:=y;rw[ZX];simp[Stp.mk.injEq]
 refine z14 1 (by simp only[pureD.pureL,z1u,Z8]) rfl (zqzj [] func152 rfl (by decide+kernel) rfl ?_)
 repeat'(first|refine nxt ?_|((refine zqh fun K c=>?_);simp(disch:=omega)only[go_sem,Z0,↓reduceIte,z0k])|(refine zqd _ rfl ?_ ?_<;>intro d<;>(((try simp only[z05]at d);try omega)))|refine zqU ?_|(refine c _ ?_;clear c K))
 ·exact z01 (decide_eq_false (fun h=>by subst h;contradiction)).symm
 ·have i:a.length=b.length:=by omega
  (refine zqL (fun j f=>∃(k:_),j=a.length-k/\f.t 0=z0k a/\f.t 1=z0k b/\f.t 5=.int .i64 k/\(k<=a.length)/\(a.take k=b.take k)) ?_ ?_);rintro j f ⟨k,rfl,l,m,n,q,e⟩;rotate_left
  ·(refine⟨_,0,rfl,?_⟩);simp(disch:=omega)only[go_sem,Z0,and_self,Z7,z0k]
   try simp
  repeat'(first|refine nxt ?_|((first|refine zqh fun K c=>?_|refine zqe (by decide+kernel) fun K c=>?_|refine zqr fun K c=>?_);simp(disch:=omega)only[go_sem,Z0,↓reduceIte,reduceCtorEq,Z2,l,m,n,z0k,g])|((first|refine zqd _ rfl (fun d=>?_) (fun d=>?_)|refine zqm _ rfl (fun d=>?_) (fun d=>?_))<;>(((try simp only[z05]at d);try omega)))|refine zqz ?_|refine zqU ?_|(refine c _ ?_;clear c K))
  ·exact z01 (decide_eq_false (zph (k:=k) (by omega) i (by assumption))).symm
  ·(refine⟨_,?_,k+1,rfl,?_⟩);rotate_left;simp(disch:=omega)only[go_sem,Z0,l,m,n,true_and,Z5,Z3,z0k];rotate_left
   ·omega
   ·exact⟨by omega,z7z (by omega) i e (by assumption)⟩
  ·exact z01 (decide_eq_true (zac (by omega) i e)).symm
theorem zwm(a b:List ByteArray)(n:a.length<=maxLen)(o:b.length<=maxLen):PC prog 153 [z1n a,z1n b] (.bool (decide (a=b))):=by
 unfold maxLen at n o;have p:∀x y:Stp,(decide (x.kind=y.kind)&&decide (x.label=y.label))=decide (x=y):=fun x y=>by
  obtain⟨a,b⟩:=x;obtain⟨r,s⟩:=y;rw[ZX];simp[Stp.mk.injEq]
 refine z14 1 (by simp only[pureD.pureL,z1q,Z8]) rfl (zqzj [] func153 rfl (by decide+kernel) rfl ?_)
 repeat'(first|refine nxt ?_|((refine zqh fun K c=>?_);simp(disch:=omega)only[go_sem,Z0,↓reduceIte,z1n])|(refine zqd _ rfl ?_ ?_<;>intro d<;>(((try simp only[z05]at d);try omega)))|refine zqU ?_|(refine c _ ?_;clear c K))
 ·exact z01 (decide_eq_false (fun h=>by subst h;contradiction)).symm
 ·have g:a.length=b.length:=by omega
  (refine zqL (fun i f=>∃(k:_),i=a.length-k/\f.t 0=z1n a/\f.t 1=z1n b/\f.t 5=.int .i64 k/\(k<=a.length)/\(a.take k=b.take k)) ?_ ?_);rintro i f ⟨k,rfl,j,l,m,q,e⟩;rotate_left
  ·(refine⟨_,0,rfl,?_⟩);simp(disch:=omega)only[go_sem,Z0,and_self,Z7,z1n]
   try simp
  repeat'(first|refine nxt ?_|((first|refine zqh fun K c=>?_|refine zqe (by decide+kernel) fun K c=>?_|refine zqr fun K c=>?_);simp(disch:=omega)only[go_sem,Z0,↓reduceIte,reduceCtorEq,Z2,j,l,m,z1n])|((first|refine zqd _ rfl (fun d=>?_) (fun d=>?_)|refine zqm _ rfl (fun d=>?_) (fun d=>?_))<;>(((try simp only[z05]at d);try omega)))|refine zqz ?_|refine zqU ?_|(refine c _ ?_;clear c K))
  ·exact z01 (decide_eq_false (zph (k:=k) (by omega) g (by assumption))).symm
  ·(refine⟨_,?_,k+1,rfl,?_⟩);rotate_left;simp(disch:=omega)only[go_sem,Z0,j,l,m,true_and,Z5,Z3,z1n];rotate_left
   ·omega
   ·exact⟨by omega,z7z (by omega) g e (by assumption)⟩
  ·exact z01 (decide_eq_true (zac (by omega) g e)).symm
theorem zf8(l:List ByteArray)(f:l.length<=maxLen)(g:∀s∈l,s.size<=maxLen)(n:Int):PC prog 82 [z1n l,.int .i64 n] (.bool (zee l&&decide (n<=(l.length:Int)))):=by
 have e:=pc_Seq l f g;refine z14 1 (by simp only[pureD.pureL,z1q,pureD,Z8]) rfl (zqzj [] func82 rfl (by decide+kernel) rfl ?_)
 repeat'(first|((first|refine zqh fun K d=>?_|refine zqs (e) ?_);simp(disch:=omega)only[go_sem,Z0,z1n])|refine nxt ?_|refine zqU ?_|(refine d _ ?_;clear d K)|(refine zqf (fun b=>?_) (fun b=>?_)<;>(have a:=b;try simp only[z05]at a)<;>((have c:(_:Bool)=_:=a);simp(disch:=omega)only[go_sem,Z0,↓reduceIte,b];clear b c;try omega)))
 all_goals refine z01 ?_
 all_goals first|(rw[‹zee l=true›,Zu];done)|(rw[‹zee l=true›,Zu,decide_eq_decide];omega)|(rw[‹zee l=false›];rfl)
theorem nameC_t{b:UInt8}(h:(97<=b.toNat/\b.toNat<=122) \/ (48<=b.toNat/\b.toNat<=57) \/ b.toNat=45):ztj b=true:=by
 unfold ztj lower dig;simp only[Ya,decide_eq_true_eq];exact h
theorem nameC_f{b:UInt8}(h:¬((97<=b.toNat/\b.toNat<=122) \/ (48<=b.toNat/\b.toNat<=57) \/ b.toNat=45)):ztj b=false:=by
 rw[<-ZA];intro g;unfold ztj lower dig at g;simp only[Ya,decide_eq_true_eq]at g;exact h g
theorem zjz(s:ByteArray)(x:s.size<=maxLen):PC prog 78 [.str s] (.bool (zjc s)):=by
 unfold maxLen at x;refine z14 1 (by simp only[pureD.pureL,pureD,Z8]) rfl (zqzj [] func78 rfl (by decide+kernel) rfl ?_);have w:=z22 s;have p:ZO 0=0:=rfl;have j:∀h:0<(bl s).length,(bl s)[0]=(bl s).headD 0:=fun h=>bhead (s:=s) h
 by_cases l:1<=s.size/\s.size<=16
 ·have c:0<(bl s).length:=by omega
  have j:=j c
  by_cases i:lower ((bl s).headD 0)=true
  ·have m:97<=((bl s)[0]'c).toNat/\((bl s)[0]'c).toNat<=122:=by rw[j];exact of_decide_eq_true i
   have n:zjc s=(bl s).all ztj:=by unfold zjc;rw[decide_eq_true l,i];rfl
   rw[n]
   repeat'(first|refine nxt ?_|((refine zqh fun K d=>?_);simp(disch:=omega)only[go_sem,Z0,↓reduceIte])|(refine zqd _ rfl ?_ ?_<;>intro f<;>(((try simp only[z05]at f);try omega)))|(refine d _ ?_;clear d K)|(refine zqf (fun e=>?_) (fun e=>?_)<;>(have a:=e;try simp only[z05]at a)<;>((first|have b:=eq_false a|have b:=eq_true a);simp(disch:=omega)only[go_sem,Z0,↓reduceIte,ZJ,b,zt0,p];clear e b;try omega)))
   (refine zqL (fun v u=>∃(k:_),v=s.size-k/\u.t 0=.str s/\u.t 3=.int .i64 k/\(k<=s.size)/\(((bl s).take k).all ztj=true)) ?_ ?_);rintro v u ⟨k,rfl,q,r,y,o⟩;rotate_left
   ·(refine⟨_,0,rfl,?_⟩);simp(disch:=omega)only[go_sem,Z0,true_and,Z7];simp
   by_cases z:k<s.size
   ·repeat'(first|refine nxt ?_|((first|refine zqh fun K d=>?_|refine zqr fun K d=>?_);simp(disch:=omega)only[go_sem,Z0,↓reduceIte,q,r,zt0])|((first|refine zqd _ rfl (fun f=>?_) (fun f=>?_)|refine zqm _ rfl (fun f=>?_) (fun f=>?_))<;>(first|(cases f;done)|((try simp only[z05]at f);try omega)))|refine zqU ?_|(refine d _ ?_;clear d K)|(refine zqf (fun e=>?_) (fun e=>?_)<;>(have a:=e;try simp only[z05]at a)<;>((first|have b:=eq_false a|have b:=eq_true a);simp(disch:=omega)only[go_sem,Z0,↓reduceIte,b];clear e b;try omega)))
    all_goals first
     |exact z01 (z5q (k:=k) (by omega) (nameC_f (by omega))).symm
     |skip
    all_goals
     (refine⟨_,?_,k+1,rfl,?_⟩);rotate_left;simp(disch:=omega)only[go_sem,Z0,q,r,true_and,Z5,Z3];rotate_left
     ·omega
     ·exact⟨by omega,z3d (by omega) o (nameC_t (by omega))⟩
   ·repeat'(first|refine nxt ?_|((refine zqh fun K d=>?_);simp(disch:=omega)only[go_sem,Z0,↓reduceIte,q,r])|(refine zqd _ rfl ?_ ?_<;>intro f<;>(((try simp only[z05]at f);try omega)))|refine zqz ?_|refine zqU ?_|(refine d _ ?_;clear d K))
    exact z01 (z3p (k:=k) (by omega) o).symm
  ·have m:¬(97<=((bl s)[0]'c).toNat/\((bl s)[0]'c).toNat<=122):=by rw[j];exact fun g=>i (decide_eq_true g)
   have n:zjc s=false:=by
    rw[ZA]at i;unfold zjc;rw[i,ZZ,Zr]
   rw[n]
   repeat'(first|refine nxt ?_|((refine z09 (N:=3) rfl fun K d=>?_);simp(disch:=omega)only[go_sem,Z0,↓reduceIte])|(refine zqd _ rfl ?_ ?_<;>intro f<;>(first|(cases f;done)|((try simp only[z05]at f);try omega)))|refine zqU ?_|(refine d _ ?_;clear d K)|(refine zqf (fun e=>?_) (fun e=>?_)<;>(have a:=e;try simp only[z05]at a)<;>((first|have b:=eq_false a|have b:=eq_true a);simp(disch:=omega)only[go_sem,Z0,↓reduceIte,ZJ,b,zt0,p];clear e b;try omega)))
   all_goals first|exact z01 rfl|(exfalso;omega)
 ·have n:zjc s=false:=by unfold zjc;rw[decide_eq_false l];rfl
  rw[n]
  repeat'(first|refine nxt ?_|((refine z09 (N:=3) rfl fun K d=>?_);simp(disch:=omega)only[go_sem,Z0,↓reduceIte])|(refine zqd _ rfl ?_ ?_<;>intro f<;>(first|(cases f;done)|((try omega))))|refine zqU ?_|(refine d _ ?_;clear d K)|(refine zqf (fun e=>?_) (fun e=>?_)<;>(have a:=e;try simp only[z05]at a)<;>((first|have b:=eq_false a|have b:=eq_true a);simp(disch:=omega)only[go_sem,Z0,↓reduceIte,ZJ,b,zt0,p];clear e b;try omega)))
  all_goals first|exact z01 rfl|(exfalso;omega)
theorem pc_start(k d:Int)(e:ByteArray)(n:e.size<=maxLen):PC prog 79 [.agg [.int .i64 k,.int .i64 d,.str e]] (.bool (startB k d e)):=by
 have l:=zaj d 0 1048576;have m:=zjz e n;have j:inB d 0 1048576=decide (0<=d/\d<=1048576):=rfl;refine z14 1 rfl rfl (zqzj [] func79 rfl (by decide+kernel) rfl ?_);unfold startB
 by_cases h:k=1
 ·rw[if_pos h,<-j]
  repeat'(first|refine nxt ?_|((first|refine zqh fun K g=>?_|refine zqs (l) ?_);simp(disch:=omega)only[go_sem,Z0,↓reduceIte,reduceCtorEq,Z2,h])|((refine zqm _ rfl (fun c=>?_) (fun c=>?_))<;>(first|(cases c;done)|((try omega))))|refine zqU ?_|(refine g _ ?_;clear g K)|(refine zqf (fun f=>?_) (fun f=>?_)<;>(have a:=f;try simp only[z05]at a)<;>((have b:(_:Bool)=_:=a);simp(disch:=omega)only[go_sem,Z0,↓reduceIte,reduceCtorEq,Z2,f];clear f b;try omega)))
  all_goals first
   |(refine z01 ?_;rw[‹inB d 0 1048576=true›,Zu];try(exact decide_eq_decide.2 ZU))
   |(refine z01 ?_;rw[‹inB d 0 1048576=false›];rfl)
   |(refine z01 ?_;rw[decide_eq_true (p:=d=0) (by assumption),Zu];try(exact decide_eq_decide.2 ZU))
   |(refine z01 ?_;rw[decide_eq_false (p:=d=0) (by assumption)];rfl)
 ·rw[if_neg h]
  by_cases i:k=3
  ·rw[if_pos i]
   repeat'(first|refine nxt ?_|((first|refine zqh fun K g=>?_|refine zqs (m) ?_);simp(disch:=omega)only[go_sem,Z0,↓reduceIte,reduceCtorEq,Z2,ZF,i])|((refine zqm _ rfl (fun c=>?_) (fun c=>?_))<;>(first|(cases c;done)|((try omega))))|refine zqU ?_|(refine g _ ?_;clear g K)|(refine zqf (fun f=>?_) (fun f=>?_)<;>(have a:=f;try simp only[z05]at a)<;>((first|have b:=eq_false a|have b:=eq_true a);simp(disch:=omega)only[go_sem,Z0,↓reduceIte,reduceCtorEq,Z2,b];clear f b;try omega)))
   all_goals first
    |(refine z01 ?_;rw[‹inB d 0 1048576=true›,Zu];try(exact decide_eq_decide.2 ZU))
    |(refine z01 ?_;rw[‹inB d 0 1048576=false›];rfl)
    |(refine z01 ?_;rw[decide_eq_true (p:=d=0) (by assumption),Zu];try(exact decide_eq_decide.2 ZU))
    |(refine z01 ?_;rw[decide_eq_false (p:=d=0) (by assumption)];rfl)
  ·rw[if_neg i]
   by_cases h0:k=0 \/ k=2
   ·rw[if_pos h0];rcases h0 with h0|h0
    all_goals (repeat'(first|refine nxt ?_|((refine zqh fun K g=>?_);simp(disch:=omega)only[go_sem,Z0,↓reduceIte,reduceCtorEq,Z2,ZF,h0])|((first|refine zqd _ rfl (fun c=>?_) (fun c=>?_)|refine zqm _ rfl (fun c=>?_) (fun c=>?_))<;>(first|(cases c;done)|((try omega))))|refine zqU ?_|(refine g _ ?_;clear g K)|(refine zqf (fun f=>?_) (fun f=>?_)<;>(have a:=f;try simp only[z05]at a)<;>((first|have b:=eq_false a|have b:=eq_true a);simp(disch:=omega)only[go_sem,Z0,↓reduceIte,reduceCtorEq,Z2,b];clear f b;try omega))))
    all_goals first
     |(refine z01 ?_;rw[‹inB d 0 1048576=true›,Zu];try(exact decide_eq_decide.2 ZU))
     |(refine z01 ?_;rw[‹inB d 0 1048576=false›];rfl)
     |(refine z01 ?_;rw[decide_eq_true (p:=d=0) (by assumption),Zu];try(exact decide_eq_decide.2 ZU))
     |(refine z01 ?_;rw[decide_eq_false (p:=d=0) (by assumption)];rfl)
   ·rw[if_neg h0]
    repeat'(first|refine nxt ?_|((refine zqh fun K g=>?_);simp(disch:=omega)only[go_sem,Z0,↓reduceIte,reduceCtorEq,Z2])|((first|refine zqd _ rfl (fun c=>?_) (fun c=>?_)|refine zqm _ rfl (fun c=>?_) (fun c=>?_))<;>(((try simp only[z05]at c);try omega)))|refine zqU ?_|(refine g _ ?_;clear g K))
    all_goals first|exact z01 rfl|(exfalso;omega)
namespace Tr
structure BaseI (x:It):Prop where
 at_:x.at_.length<=maxLen
 to:x.to.length<=maxLen
 old:x.old.length<=maxLen
 new:x.new.length<=maxLen
 by_:x.by_.length<=maxLen
 unit:szB x.unit=true
def FitF(x:It)(l:List Prop):Prop:=BaseI x/\∀p∈l,p
def FitI(x:It):Prop:=recI FitF x
theorem zfo(x:It):FitI x ↔ BaseI x/\∀k∈x.by_,FitI k:=by
 unfold FitI;rw[zgt];refine⟨fun⟨a,h2⟩=>⟨a,fun k b=>h2 _ (Zv.2 ⟨k,b,rfl⟩)⟩,fun⟨a,h2⟩=>⟨a,fun p c=>?_⟩⟩;obtain⟨k,b,rfl⟩:=Zv.1 c;exact h2 k b
theorem It.ext{a b:It}(k:a.kind=b.kind)(l:a.at_=b.at_)(m:a.to=b.to)(n:a.wh=b.wh)(o:a.nth=b.nth)(p:a.unit=b.unit)(q:a.old=b.old)(r:a.new=b.new)(s:a.label=b.label)(t:a.for_=b.for_)
  (c:a.sk=b.sk) (d:a.sd=b.sd) (e:a.se=b.se) (f:a.act=b.act) (g:a.item=b.item) (h:a.day=b.day) (i:a.event=b.event) (j:a.by_=b.by_):a=b:=by
 cases a;cases b;simp only[It.kind,It.at_,It.to,It.wh,It.nth,It.unit,It.old,It.new,It.label,It.for_,It.sk,It.sd,It.se,It.act,It.item,It.day,It.event,It.by_]at *;subst k l m n o p q r s t c d e f g h i j
 rfl
structure Sta where
 k:Int
 d:Int
 e:ByteArray
instance:DecidableEq Sta:=fun a b=>decidable_of_iff (a.k=b.k/\a.d=b.d/\a.e=b.e) ⟨fun⟨h1,h2,h3⟩=>by cases a;cases b;simp_all,fun h=>by subst h;exact⟨rfl,rfl,rfl⟩⟩
theorem staEq(a b c a' b' c'):(decide (a=a')&&(decide (b=b')&&decide (c=c')))=decide (Sta.mk a b c=Sta.mk a' b' c'):=by
 rw[ZX];simp[Sta.mk.injEq]
theorem staEq' (a b c a' b' c'):(decide (a=a')&&decide (b=b')&&decide (c=c'))=decide (Sta.mk a b c=Sta.mk a' b' c'):=by rw[Bool.and_assoc,staEq]
end Tr
set_option maxHeartbeats 16000000 in
theorem pc_SameI:∀a:It,FitI a->∀b:It,FitI b->PC prog 75 [zfp a,zfp b] (.bool (decide (a=b))):=by
 refine zuu fun a ih ha b hb=>?_;obtain⟨a1,a2⟩:=(zfo a).1 ha;obtain⟨b1,b2⟩:=(zfo b).1 hb;have c1:=zrd a.at_ b.at_ a1.at_ b1.at_;have c2:=zrd a.to b.to a1.to b1.to;have c3:=zwm a.old b.old a1.old b1.old;have c4:=zwm a.new b.new a1.new b1.new;have c5:=pc_Same a.unit a1.unit b.unit b1.unit;have hl1:=a1.by_;have hl2:=b1.by_;unfold maxLen at hl1 hl2;have hst:=staEq a.sk a.sd a.se b.sk b.sd b.se;have hst':=staEq' a.sk a.sd a.se b.sk b.sd b.se;refine z14 1 (by simp only[pureD.pureL,z5p,Z8]) rfl (zqzj [] func75 rfl (by decide+kernel) rfl ?_)
 repeat'(first|refine nxt ?_|((refine z09 (N:=3) rfl fun K hK=>?_);simp(disch:=omega)only[go_sem,Z0,↓reduceIte,reduceCtorEq,Z2,List.append_eq,Zp,Zo,Zf,Zk])|(refine zqd _ rfl ?_ ?_<;>intro hc<;>(first|(cases hc;done)|((try simp only[z05]at hc);try omega)))|refine zqU ?_|(refine hK _ ?_;clear hK K)|(refine zqf (fun hb=>?_) (fun hb=>?_)<;>(have hb2:=hb;try simp only[z05]at hb2)<;>((first|have hb3:=eq_false hb2|have hb3:=eq_true hb2);simp(disch:=omega)only[go_sem,Z0,↓reduceIte,reduceCtorEq,Z2,Z1,hb3,hst'];clear hb hb3;try omega)))
 all_goals first
  |exact z01 (decide_eq_false (fun h=>by subst h;contradiction)).symm
  |skip
 clear hst hst';have hsta:a.sk=b.sk/\a.sd=b.sd/\a.se=b.se:=by
  have h := ‹Sta.mk a.sk a.sd a.se=Sta.mk b.sk b.sd b.se›;rw[Sta.mk.injEq]at h;exact h
 (refine z2a (fun st=>st.t 2=.ptr 0 0/\st.t 3=.ptr 1 0/\st.H 0=some (.box 43 (z0t a))/\st.H 1=some (.box 43 (z0t b))/\st.nx=2) ?_ ?_);rotate_left;(rintro st ⟨p2,p3,pH0,pH1,pnx⟩);rotate_left
 ·(simp(disch:=omega)only[go_sem,Z0,and_self])
 repeat'(first|refine nxt ?_|((first|refine z09 (N:=5) rfl fun K hK=>?_|refine zqs (c1) ?_|refine zqs (c2) ?_|refine zqs (c3) ?_|refine zqs (c4) ?_|refine zqs (c5) ?_);simp(disch:=omega)only[go_sem,Z0,↓reduceIte,reduceCtorEq,Z2,p2,p3,pH0,pH1,pnx])|(refine zqd _ rfl ?_ ?_<;>intro hc<;>(first|(cases hc;done)|((try simp only[z05]at hc);try omega)))|refine zqU ?_|(refine hK _ ?_;clear hK K)|(refine zqf (fun hb=>?_) (fun hb=>?_)<;>(have hb2:=hb;try simp only[z05]at hb2)<;>((first|have hb3:=eq_false hb2|have hb3:=eq_true hb2);simp(disch:=omega)only[go_sem,Z0,↓reduceIte,reduceCtorEq,Z2,Z1,hb3,p2,p3,pH0,pH1,z5e];clear hb hb3;try omega)))
 all_goals first
  |exact z01 (decide_eq_false (fun h=>by subst h;contradiction)).symm
  |skip
 have hl:a.by_.length=b.by_.length:=by omega
 repeat'(first|((refine zqh fun K hK=>?_);simp(disch:=omega)only[go_sem,pnx])|refine nxt ?_|(refine hK _ ?_;clear hK K))
 (refine zqL (fun mz st=>∃(k:_),mz=a.by_.length-k/\st.t 2=.ptr 0 0/\st.t 3=.ptr 1 0/\st.t 5=.int .i64 k/\st.H 0=some (.box 43 (z0t a))/\st.H 1=some (.box 43 (z0t b))/\st.nx=2/\(k<=a.by_.length)/\(a.by_.take k=b.by_.take k)) ?_ ?_);rintro mz st ⟨k,rfl,q2,q3,q5,qH0,qH1,qnx,qp0,qp1⟩;rotate_left
 ·(refine⟨_,0,rfl,?_⟩);simp(disch:=omega)only[go_sem,Z0,p2,p3,pH0,pH1,and_self,Z7]
 by_cases hk:k<a.by_.length
 ·have c6:=ih a.by_[k] (Z6 hk) (a2 _ (Z6 hk)) (b.by_[k]'(by omega)) (b2 _ (Z6 (by omega)))
  repeat'(first|refine nxt ?_|((first|refine zqh fun K hK=>?_|refine zqe (by decide+kernel) fun K hK=>?_|refine zqr fun K hK=>?_|refine zqt (c6) ?_);simp(disch:=omega)only[go_sem,Z0,↓reduceIte,reduceCtorEq,Z2,q2,q3,q5,qH0,qH1,qnx,z5e])|((first|refine zqd _ rfl (fun hc=>?_) (fun hc=>?_)|refine zqm _ rfl (fun hc=>?_) (fun hc=>?_))<;>(((try simp only[z05]at hc);try omega)))|refine zqU ?_|(refine hK _ ?_;clear hK K))
  ·exact z01 (decide_eq_false (fun h=>by subst h;exact ‹¬a.by_[k]=a.by_[k]› rfl)).symm
  ·(refine⟨_,?_,k+1,rfl,?_⟩);rotate_left;simp(disch:=omega)only[go_sem,Z0,q2,q3,q5,qH0,qH1,true_and,Z5,Z3];rotate_left
   ·omega
   ·exact⟨by omega,z7z hk hl qp1 (by assumption)⟩
 ·repeat'(first|refine nxt ?_|((refine zqh fun K hK=>?_);simp(disch:=omega)only[go_sem,Z0,↓reduceIte,reduceCtorEq,Z2,q2,q5,qH0,qnx,z5e])|(refine zqd _ rfl ?_ ?_<;>intro hc<;>(((try simp only[z05]at hc);try omega)))|refine zqz ?_|refine zqU ?_|(refine hK _ ?_;clear hK K))
  have hby:=zac (by omega) hl qp1;exact z01 (decide_eq_true (It.ext (by assumption) (by assumption) (by assumption) (by assumption) (by assumption) (by assumption) (by assumption) (by assumption) (by assumption) (by assumption) hsta.1 hsta.2.1 hsta.2.2 (by assumption) (by assumption) (by assumption) (by assumption) hby)).symm
end
section
open Abs Facts Tr
namespace Tr
structure BaseR (x:It):Prop where
 at_:x.at_.length<=maxLen/\∀s∈x.at_,s.label.size<=maxLen
 to:x.to.length<=maxLen/\∀s∈x.to,s.label.size<=maxLen
 old:x.old.length<=maxLen/\∀s∈x.old,s.size<=maxLen
 new:x.new.length<=maxLen/\∀s∈x.new,s.size<=maxLen
 by_:x.by_.length<=maxLen
 unit:fitB x.unit=true
 strs:x.label.size<=maxLen/\x.for_.size<=maxLen/\x.se.size<=maxLen/\x.event.size<=maxLen
def RdF(x:It)(l:List Prop):Prop:=BaseR x/\∀p∈l,p
def RdI(x:It):Prop:=recI RdF x
theorem zoi(x:It):RdI x ↔ BaseR x/\∀k∈x.by_,RdI k:=by
 unfold RdI;rw[zgt];refine⟨fun⟨a,h2⟩=>⟨a,fun k b=>h2 _ (Zv.2 ⟨k,b,rfl⟩)⟩,fun⟨a,h2⟩=>⟨a,fun p c=>?_⟩⟩;obtain⟨k,b,rfl⟩:=Zv.1 c;exact h2 k b
def zv2(x:It):Bool:=decide (0<x.by_.length)&&decide (0<(x.by_.headD x).by_.length)
def fewN(x:It):Bool:=decide (x.at_.length<=12)&&(decide (x.to.length<=12)&&(decide (x.old.length<=300)&&(decide (x.new.length<=300)&&(decide (x.label.size<=100)&&(decide (x.for_.size<=100)&&(decide (x.se.size<=100)&&(decide (x.event.size<=100)&&(decide (x.by_.length<=2)&&fewB x.unit 30))))))))
def shS(l:List ByteArray):Bool:=l.all fun s=>decide (s.size<=100)
def shP(l:List Stp):Bool:=l.all fun s=>decide (s.label.size<=100)
def zor(x:It):Bool:=recI (fun x l=>fewN x&&(shS x.old&&(shS x.new&&(shP x.at_&&(shP x.to&&((x.by_.zip l).all fun p => !zv2 p.1&&p.2)))))) x
theorem zv3(x:It):zor x=(fewN x&&(shS x.old&&(shS x.new&&(shP x.at_&&(shP x.to&&x.by_.all fun y => !zv2 y&&zor y))))):=by
 unfold zor;rw[zgt]
 congr 5
 generalize x.by_=l
 induction l with
 |nil=>rfl
 |cons a l b=>simp only[Zf,List.zip_cons_cons,List.all_cons,b]
structure BaseO (x:It):Prop where
 at_:x.at_.length<=1000/\∀s∈x.at_,s.label.size<=1000
 to:x.to.length<=1000/\∀s∈x.to,s.label.size<=1000
 old:x.old.length<=1000/\∀s∈x.old,s.size<=1000
 new:x.new.length<=1000/\∀s∈x.new,s.size<=1000
 by_:x.by_.length<=1000
 unit:szB x.unit=true/\cntT x.unit<=1000/\depT x.unit<=50
 strs:x.label.size<=1000/\x.for_.size<=1000/\x.se.size<=1000/\x.event.size<=1000
def OkF(x:It)(l:List Prop):Prop:=BaseO x/\∀p∈l,p
def OkI(x:It):Prop:=recI OkF x
theorem zcd(x:It):OkI x ↔ BaseO x/\∀k∈x.by_,OkI k:=by
 unfold OkI;rw[zgt];refine⟨fun⟨a,h2⟩=>⟨a,fun k b=>h2 _ (Zv.2 ⟨k,b,rfl⟩)⟩,fun⟨a,h2⟩=>⟨a,fun p c=>?_⟩⟩;obtain⟨k,b,rfl⟩:=Zv.1 c;exact h2 k b
theorem ok_fit:∀x:It,OkI x->FitI x:=by
 refine zuu fun x d h=>?_;obtain⟨a,c⟩:=(zcd x).1 h;refine(zfo x).2 ⟨⟨?_,?_,?_,?_,?_,a.unit.1⟩,fun k b=>d k b (c k b)⟩
 ·have:=a.at_.1;unfold maxLen;omega
 ·have:=a.to.1;unfold maxLen;omega
 ·have:=a.old.1;unfold maxLen;omega
 ·have:=a.new.1;unfold maxLen;omega
 ·have:=a.by_;unfold maxLen;omega
theorem few_ok:∀x:It,zor x=true->OkI x:=by
 refine zuu fun x j h=>?_;rw[zv3,fewN]at h;simp only[Zj,decide_eq_true_eq,ZC,shS,shP]at h;obtain⟨⟨l,m,n,o,p,q,r,t,u,b⟩,b1,d,e,f,g⟩:=h;obtain⟨i,v,w⟩:=few_sz (most:=30) (by decide) (by decide) b;refine(zcd x).2 ⟨⟨⟨by omega,fun s a=>?_⟩,⟨by omega,fun s a=>?_⟩,⟨by omega,fun s a=>?_⟩,⟨by omega,fun s a=>?_⟩,by omega,⟨i,by omega,by omega⟩,by omega,by omega,by omega,by omega⟩,fun k c=>j k c (g k c).2⟩
 ·have:=e s a;omega
 ·have:=f s a;omega
 ·have:=b1 s a;omega
 ·have:=d s a;omega
theorem fit_told(x:It)(h:FitI x):FitI (ztk x):=by
 obtain⟨a,b⟩:=(zfo x).1 h;have z:szB T.zero=true:=by decide+kernel
 refine(zfo _).2 ⟨⟨?_,?_,?_,?_,?_,?_⟩,?_⟩
 ·show (if _ then x.at_ else []).length<=_;split
  ·exact a.at_
  ·exact ZL _
 ·show (if _ then x.to else []).length<=_;split
  ·exact a.to
  ·exact ZL _
 ·show (if _ then x.old else []).length<=_;split
  ·exact a.old
  ·exact ZL _
 ·show (if _ then x.new else []).length<=_;split
  ·exact a.new
  ·exact ZL _
 ·show (if _ then x.by_ else []).length<=_;split
  ·exact a.by_
  ·exact ZL _
 ·show szB (if _ then x.unit else T.zero)=true;split
  ·exact a.unit
  ·exact z
 ·show ∀k∈(if x.kind=11 then x.by_ else []),FitI k;split
  ·exact b
  ·intro k c;cases c
theorem zea{u:T}{id:Idv}(h:id∈idsT u):(z07 id u).2=true:=by rw[z1y,decide_eq_true h]
end Tr
end
end
namespace Glue
open Go.ChangeShapes Go.WideShapes Go.ChangeAt Go.RowKit Abs Facts Tr
theorem ownK:ownKnob Tryz.prog.godebug=none:=by kernel_rfl
theorem laidOutK:laidOutB Tryz.prog=true:=by kernel_rfl
def S:List TypeId:=[4,3,9,38,23,120,122,24,27,25,109,37,40,43,41,45]
set_option maxRecDepth 100000
theorem closedS:zjs Tryz.prog S=true:=by decide+kernel
theorem typed_id{n:Nat}{ds:List D}(h:z62 Tryz.prog n 23 ds):∃i:Idv,ds=z0a i:=by
 obtain⟨m,rfl,h⟩:=z45 Tryz.underlying23 h;obtain⟨e,l,rfl,a,f,o,rfl,b,g,q,rfl,c,rfl⟩:=h;obtain⟨i,rfl,_⟩:=z2o Tryz.underlying3 a;obtain⟨j,rfl,_⟩:=z2o Tryz.underlying3 b;obtain⟨k,rfl,_⟩:=z2o Tryz.underlying3 c;exact⟨⟨i,j,k⟩,rfl⟩
theorem zxj{n:Nat}{ds:List D}(h:z62 Tryz.prog n 122 ds):∃w:Wd,ds=z1p w:=by
 obtain⟨m,rfl,h⟩:=z45 Tryz.underlying122 h;obtain⟨l,B,rfl,e,o,C,rfl,f,rfl⟩:=h;obtain⟨s,rfl,_⟩:=z7i Tryz.underlying9 e;obtain⟨x,rfl,g⟩:=z45 Tryz.underlying120 f;obtain⟨q,y,rfl,a,t,z,rfl,b,u,A,rfl,c,rfl⟩:=g;obtain⟨i,rfl,_⟩:=z2o Tryz.underlying3 a;obtain⟨j,rfl,_⟩:=z2o Tryz.underlying3 b;obtain⟨k,rfl,_⟩:=z2o Tryz.underlying3 c;exact⟨⟨s,⟨i,j,k⟩⟩,rfl⟩
theorem zik{n:Nat}{ds:List D}(h:z62 Tryz.prog n 24 ds):∃l:List Wd,ds=[z0f l]/\l.length<=maxLen:=by
 obtain⟨m,a,rfl,c,b,rfl⟩:=z73 Tryz.underlying24 h;obtain⟨l,rfl,_⟩:=z4d (f:=z1p) (q:=fun _=>True) (fun p b=>by obtain⟨w,e⟩:=zxj b;exact⟨w,e,trivial⟩) a b;refine⟨l,?_,by simpa using c⟩;rw[z64,z7d,ZN];rfl
theorem zlm:∀(n:Nat) {ds:List D},z62 Tryz.prog n 27 ds->∃t:T,ds=z08 t/\fitB t=true:=by
 intro n
 induction n using Yl with
 |ind n C =>
  intro ds h;obtain⟨m,rfl,h⟩:=z45 Tryz.underlying27 h;obtain⟨E,L,rfl,g,F,M,rfl,j,G,N,rfl,o,I,O,rfl,u,J,P,rfl,w,K,Q,rfl,x,rfl⟩:=h;obtain⟨i,rfl⟩:=typed_id g;obtain⟨k,rfl,_⟩:=z2o Tryz.underlying3 j;obtain⟨s,rfl,_⟩:=z7i Tryz.underlying9 o;obtain⟨a,rfl,y⟩:=zik u;obtain⟨b,rfl,z⟩:=zik w;obtain⟨q,c,rfl,A,e,rfl⟩:=z73 Tryz.underlying25 x;obtain⟨l,rfl,B⟩:=z4d (f:=z08) (q:=fun t=>fitB t=true) (fun p e=>C q (by omega) e) c e;refine⟨.mk i k s a b l,?_,?_⟩
  ·rw[z0n,z0p,z35,ZN];rfl
  ·rw[zbg];exact⟨y,z,(show l.length<=_ by simpa using A),B⟩
theorem zxk{n:Nat}{ds:List D}(h:z62 Tryz.prog n 109 ds):∃s:Stp,ds=z8x s/\s.label.size<=maxLen:=by
 obtain⟨m,rfl,h⟩:=z45 Tryz.underlying109 h;obtain⟨e,g,rfl,a,f,j,rfl,b,rfl⟩:=h;obtain⟨i,rfl,_⟩:=z2o Tryz.underlying3 a;obtain⟨s,rfl,c⟩:=z7i Tryz.underlying9 b;exact⟨⟨i,s⟩,rfl,c⟩
theorem zil{n:Nat}{ds:List D}(h:z62 Tryz.prog n 37 ds):∃l:List Stp,ds=[z0k l]/\l.length<=maxLen/\∀s∈l,s.label.size<=maxLen:=by
 obtain⟨m,a,rfl,c,b,rfl⟩:=z73 Tryz.underlying37 h;obtain⟨l,rfl,e⟩:=z4d (f:=z8x) (q:=fun s:Stp=>s.label.size<=maxLen) (fun p b=>zxk b) a b;refine⟨l,?_,by simpa using c,e⟩;rw[isAggT109,sizeT109,ZN];rfl
theorem zxl:∀(n:Nat) {ds:List D},z62 Tryz.prog n 43 ds->∃x:It,ds=z0t x/\RdI x:=by
 intro n
 induction n using Yl with
 |ind n ih =>
  intro ds h;obtain⟨m,rfl,h⟩:=z45 Tryz.underlying43 h;obtain⟨d0,r0,rfl,P,d1,r1,rfl,Q,d2,r2,rfl,R,d3,r3,rfl,U,d4,r4,rfl,X,d5,r5,rfl,Y,d6,r6,rfl,Z,d7,r7,rfl,h7,d8,r8,rfl,h8,d9,r9,rfl,h9,F,a2,rfl,c,G,a3,rfl,i,I,a4,rfl,j,J,a5,rfl,s,K,a6,rfl,t,L,a7,rfl,y,rfl⟩:=h;obtain⟨k,rfl,_⟩:=z2o Tryz.underlying3 P;obtain⟨a,rfl,ha⟩:=zil Q;obtain⟨b,rfl,hb⟩:=zil R;obtain⟨w,rfl,_⟩:=z2o Tryz.underlying3 U;obtain⟨nth,rfl,_⟩:=z2o Tryz.underlying3 X;obtain⟨u,rfl,hu⟩:=zlm _ Y;obtain⟨o,rfl,ho⟩:=zm9 Tryz.underlying38 Tryz.underlying9 zbz Z;obtain⟨p,rfl,B⟩:=zm9 Tryz.underlying38 Tryz.underlying9 zbz h7;obtain⟨l,rfl,hl⟩:=z7i Tryz.underlying9 h8;obtain⟨f,rfl,hf⟩:=z7i Tryz.underlying9 h9;obtain⟨m',a0,c⟩:=z45 Tryz.underlying40 c;obtain⟨s1,t1,rfl,M,s2,t2,rfl,N,s3,t3,rfl,O,rfl⟩:=c;obtain⟨sk,rfl,_⟩:=z2o Tryz.underlying3 M;obtain⟨sd,rfl,_⟩:=z2o Tryz.underlying3 N;obtain⟨se,rfl,E⟩:=z7i Tryz.underlying9 O;obtain⟨x1,rfl,_⟩:=z2o Tryz.underlying3 i;obtain⟨x2,rfl,_⟩:=z2o Tryz.underlying3 j;obtain⟨x3,rfl,_⟩:=z2o Tryz.underlying3 s;obtain⟨e,rfl,he⟩:=z7i Tryz.underlying9 t;obtain⟨q,g,a1,A,C,rfl⟩:=z73 Tryz.underlying41 y;obtain⟨by_,rfl,z⟩:=z4d (f:=z0t) (q:=RdI) (fun p B=>ih q (by omega) B) g C;refine⟨.mk k a b w nth u o p l f sk sd se x1 x2 x3 e by_,?_,?_⟩
  ·rw[zkl,isAggT43,sizeT43,ZN];rfl
  ·exact(zoi _).2 ⟨⟨ha,hb,ho,B,(show by_.length<=_ by simpa using A),hu,⟨hl,hf,E,he⟩⟩,z⟩
theorem typed_eit{n:Nat}{ds:List D}(h:z62 Tryz.prog n 45 ds):∃d:EIt,ds=z0w d/\RdI d.it:=by
 obtain⟨m,rfl,h⟩:=z45 Tryz.underlying45 h;obtain⟨k,s,rfl,e,l,t,rfl,f,o,u,rfl,g,q,w,rfl,i,rfl⟩:=h;obtain⟨a,rfl,_⟩:=z2o Tryz.underlying3 e;obtain⟨b,rfl,_⟩:=z2o Tryz.underlying3 f;obtain⟨c,rfl,_⟩:=z2o Tryz.underlying3 g;obtain⟨x,rfl,j⟩:=zxl _ i;refine⟨⟨a,b,c,x⟩,?_,j⟩;rw[Ze];rfl
section
variable {H:Type}{enc:TypeId×Value->H}{W:World}{base:Nat}{r:Reach}{b0:Nat}{spare:Nat->Bool}{held:Bool}{v:Value}{d:DataW H}{p:List MemPlace}
theorem rd_unit(e:Value.okWide Tryz.prog W r b0 27 v)(h:DataW.Trod enc Tryz.prog W base spare held 27 v d p):∃t:T,fitB t=true/\rel (z9h W) (z0o t) v:=by
 obtain⟨f,rfl,_⟩:=okWide_struct Tryz.underlying27 e;obtain⟨m,g,c,b⟩:=agg_arg closedS (by decide) h;obtain⟨q,rfl,a⟩:=zlm _ c;exact⟨q,a,b⟩
end
end Glue
section
open _root_.Go.Proofs.Tryz
section
open Abs Facts Tr
attribute [local irreducible] awp
set_option maxRecDepth 100000
namespace Tr
theorem okS_no{i:Nat}{s:Stp}(c:¬(i:Int)=0 \/ zj4 s=false)(d:s.kind<1 \/ 7<s.kind \/ z3x s.label=false):okS i s=false:=by
 unfold okS znd;have a:(decide (i=0)&&zj4 s)=false:=by
  rcases c with h|h
  ·rw[decide_eq_false (by omega)];rfl
  ·rw[h,Zr]
 have b:(decide (1<=s.kind/\s.kind<=7)&&z3x s.label)=false:=by
  rcases d with h|h|h
  ·rw[decide_eq_false (by omega)];rfl
  ·rw[decide_eq_false (by omega)];rfl
  ·rw[h,Zr]
 rw[a,b];rfl
theorem zw3{i:Nat}{s:Stp}(b:(i:Int)=0)(a:zj4 s=true):okS i s=true:=by
 unfold okS;rw[decide_eq_true (show i=0 by omega),a];rfl
theorem zw4{i:Nat}{s:Stp}(b:¬s.kind<1)(c:¬7<s.kind)(a:z3x s.label=true):okS i s=true:=by
 unfold okS znd;rw[decide_eq_true (show 1<=s.kind/\s.kind<=7 by omega),a,Y5,Bool.or_true]
end Tr
theorem zw5(s:Stp):PC prog 155 [zb9 s] (.bool (zj4 s)):=by
 refine z14 1 rfl rfl (zqzj [] func155 rfl (by decide+kernel) rfl ?_)
 repeat'(first|((refine zqh fun K d=>?_);simp(disch:=omega)only[go_sem,Z0,↓reduceIte,reduceCtorEq,Z2])|refine nxt ?_|refine zqU ?_|(refine d _ ?_;clear d K)|(refine zqf (fun c=>?_) (fun c=>?_)<;>(have a:=c;try simp only[z05]at a)<;>((first|have b:=eq_false a|have b:=eq_true a);simp(disch:=omega)only[go_sem,Z0,↓reduceIte,reduceCtorEq,Z2,b];clear c b;try omega)))
 all_goals exact z01 (by unfold zj4 z3h;first|(simp_all;done)|(simp_all;exact decide_eq_decide.2 ZU))
theorem ztr(p:List Stp)(w:p.length<=maxLen)(x:∀s∈p,s.label.size<=maxLen):PC prog 77 [z0k p] (.bool (zbi p)):=by
 unfold maxLen at w;have u:=fun(i:Nat) (h:i<p.length)=>zw5 p[i];have v:=fun(i:Nat) (h:i<p.length)=>zhy p[i].label (x _ (Z6 h));refine z14 1 (by simp only[pureD.pureL,z1u,Z8]) rfl (zqzj [] func77 rfl (by decide+kernel) rfl ?_)
 repeat'(first|refine nxt ?_|((refine zqh fun K a=>?_);simp(disch:=omega)only[go_sem,Z0,↓reduceIte,z0k])|(refine zqd _ rfl ?_ ?_<;>intro b<;>(((try simp only[z05]at b);try omega)))|refine zqU ?_|(refine a _ ?_;clear a K))
 ·exact z01 (addr_long (by omega)).symm
 (refine zqL (fun r q=>∃(k:_),r=p.length-k/\q.t 0=z0k p/\q.t 3=.int .i64 k/\(k<=p.length)/\(p.length<=9)/\(∀i,(g:i<k)->(h:i<p.length)->okS i p[i]=true)) ?_ ?_);rintro r q ⟨k,rfl,m,n,y,z,j⟩;rotate_left
 ·(refine⟨_,0,rfl,?_⟩);simp(disch:=omega)only[go_sem,Z0,true_and,Z7,z0k];exact⟨by omega,fun i g=>by omega⟩
 by_cases o:k<p.length
 ·have l:okS k p[k]=true->∀i,(g:i<k+1)->(h:i<p.length)->okS i p[i]=true:=fun f i g h=>by
   by_cases e:i=k
   ·subst e;exact f
   ·exact j i (by omega) h
  repeat'(first|refine nxt ?_|((first|refine zqh fun K a=>?_|refine zqr fun K a=>?_|refine zqs (u k o) ?_|refine zqs (v k o) ?_);simp(disch:=omega)only[go_sem,Z0,↓reduceIte,reduceCtorEq,Z2,m,n,z0k])|((first|refine zqd _ rfl (fun b=>?_) (fun b=>?_)|refine zqm _ rfl (fun b=>?_) (fun b=>?_))<;>(first|(cases b;done)|((try simp only[z05]at b);try omega)))|refine zqz ?_|refine zqU ?_|(refine a _ ?_;clear a K)|(refine zqf (fun f=>?_) (fun f=>?_)<;>(have c:=f;try simp only[z05]at c)<;>((first|have d:=eq_false c|have d:=eq_true c);simp(disch:=omega)only[go_sem,Z0,↓reduceIte,reduceCtorEq,Z2,d,m,n,z0k];clear f d;try omega)))
  all_goals first
   |exact z01 (zvo o (okS_no (by first|(left;omega)|(right;assumption)) (by first|(left;assumption)|(right;left;assumption)|(right;right;assumption)))).symm
   |skip
  all_goals
   (refine⟨_,?_,k+1,rfl,?_⟩);rotate_left;simp(disch:=omega)only[go_sem,Z0,m,n,true_and,Z5,Z3];rotate_left
   ·omega
   ·exact⟨by omega,by omega,l (by first|exact zw3 (by omega) (by assumption)|exact zw4 (by assumption) (by assumption) (by assumption))⟩
 ·repeat'(first|refine nxt ?_|((refine zqh fun K a=>?_);simp(disch:=omega)only[go_sem,Z0,↓reduceIte,m,n,z0k])|(refine zqd _ rfl ?_ ?_<;>intro b<;>(((try simp only[z05]at b);try omega)))|refine zqz ?_|refine zqU ?_|(refine a _ ?_;clear a K))
  exact z01 (addr_all (by omega) fun i g=>j i (by omega) g).symm
theorem pc_at7(u:T)(s:Stp):PC prog 250 [z0o u,zb9 s] (.bool (atB s u)):=by
 refine z14 1 (by simp only[pureD.pureL,z02];rfl) rfl (zqzj [] func250 rfl (by decide+kernel) rfl ?_)
 repeat'(first|((refine zqh fun K d=>?_);simp(disch:=omega)only[go_sem,Z0,↓reduceIte,reduceCtorEq,Z2])|refine nxt ?_|refine zqU ?_|(refine d _ ?_;clear d K)|(refine zqf (fun c=>?_) (fun c=>?_)<;>(have a:=c;try simp only[z05]at a)<;>((first|have b:=eq_false a|have b:=eq_true a);simp(disch:=omega)only[go_sem,Z0,↓reduceIte,reduceCtorEq,Z2,b];clear c b;try omega)))
 all_goals exact z01 (by unfold atB;first|(simp_all;done)|(simp_all;exact decide_eq_decide.2 ZU))
theorem zq5:∀t:T,szB t=true->cntT t<=1000000000->PC prog 89 [z0o t] (z0l (z0c t)):=by
 refine z4a fun t x v e=>?_;obtain⟨C,E,A,F,B,G,s⟩:=(z1k t).1 v;have u:=z4f t;refine z14 2 (by simp only[pureD.pureL,z02,Z8]) (z1g _) (zqzj [6] func89 rfl (by decide+kernel) rfl ?_)
 repeat'(first|refine nxt ?_|((refine zqh fun K b=>?_);simp(disch:=omega)only[go_sem,Z0,↓reduceIte,reduceCtorEq,Z2,Zh,Z1])|(refine b _ ?_;clear b K))
 (refine zqL (fun r d=>∃(i:_),r=t.kids.length-i/\d.t 1=.ptr 0 0/\d.t 3=.osl 1 (1+((t.kids.take i).flatMap z0c).length)/\d.t 4=.int .i64 i/\d.H 0=some (.box 27 (z08 t))/\d.H 1=some (.row 27 (1+((t.kids.take i).flatMap z0c).length) ((t::(t.kids.take i).flatMap z0c).flatMap z08))/\(i<=t.kids.length)/\(2<=d.nx)) ?_ ?_);rintro r d ⟨i,rfl,o,p,q,c,a,y,z⟩;rotate_left
 ·(refine⟨_,0,rfl,?_⟩);simp(disch:=omega)only[go_sem,Z0,Z1,true_and,and_true,and_self,Z7,Zd,Ze]
  try simp
 have m:=fun(h:i<t.kids.length)=>x t.kids[i] (Z6 h) (s _ (Z6 h)) (by have:=zby (Z6 h);omega);have I:=z4g t.kids (i+1)
 by_cases g:i<t.kids.length
 ·have w:=z6n t.kids i g;have k:(z0c t.kids[i]).length=cntT t.kids[i]:=rfl;have n:(t.kids.take (i+1)).flatMap z0c=(t.kids.take i).flatMap z0c++z0c t.kids[i]:=by
   rw[Z4 g,Zb];simp
  repeat'(first|refine nxt ?_|((first|refine zqh fun K b=>?_|refine zqr fun K b=>?_|refine zqs (m g) ?_);simp(disch:=omega)only[go_sem,Z0,↓reduceIte,reduceCtorEq,Z2,o,p,q,c,a,z0l,z4e])|(refine zqd _ rfl ?_ ?_<;>intro e<;>(((try simp only[z05]at e);try omega)))|(refine b _ ?_;clear b K))
  (refine⟨_,?_,i+1,rfl,?_⟩);rotate_left;simp(disch:=omega)only[go_sem,Z0,o,p,q,c,a,true_and,Z5,Z3,Zb,Zc,n,k,ZK,ZD];rotate_left
  ·omega
  ·omega
 ·repeat'(first|refine nxt ?_|((refine zqh fun K b=>?_);simp(disch:=omega)only[go_sem,Z0,↓reduceIte,reduceCtorEq,Z2,o,p,q,c,z0l])|(refine zqd _ rfl ?_ ?_<;>intro e<;>(((try simp only[z05]at e);try omega)))|refine zqz ?_|refine zqU ?_|(refine b _ ?_;clear b K))
  have j:i=t.kids.length:=by omega
  subst j;rw[Zg]at a;rw[Zg];rw[<-z1l]at a;refine z3j (z1j (f:=z08) (l:=z0c t) 0 ?_ ?_ z0p z35 z0h z04)
  ·rw[z1l,Za];omega
  ·(simp(disch:=omega)only[go_sem,a])
theorem zlb(x:D)(l:List D):zv6 (x::l) 0=some x:=by simp[zv6]
theorem zf3{L:List T}{s:Stp}{i:Nat}(hi:i<L.length)(j:Nat):((L.take i).flatMap (fun x=>x.kids.filter (atB s))++(L[i].kids.take j).filter (atB s)).length<=(z2z L s).length:=by
 have e:L=L.take i++L[i]::L.drop (i+1):=by rw[<-List.drop_eq_getElem_cons hi,ZY]
 have a:(z2z L s).length=((L.take i).flatMap (fun x=>x.kids.filter (atB s))).length+((L[i].kids.filter (atB s)).length+((L.drop (i+1)).flatMap (fun x=>x.kids.filter (atB s))).length):=by
  unfold z2z
  conv=>lhs;rw[e]
  rw[Zb,Zc,Z9,Z9]
 have b:((L[i].kids.take j).filter (atB s)).length<=(L[i].kids.filter (atB s)).length:=((List.take_sublist _ _).filter _).length_le;rw[a,Z9];omega
theorem z5a(l:List T)(n:Nat)(a:n=l.length):z23 true 8 n (l.flatMap z08)=l.map z0o:=by
 subst a;exact zcw (f:=z08) (sz:=8) z0h l
theorem z6c(l:List T):pureD.pureL (l.flatMap z08)=true:=z1z z04 l
theorem pc_Units7(u:T)(hs:szB u=true)(c:cntT u<=1100)(p:List Stp)(hl:p.length<=maxLen)(a7:∀s∈p,s.label.size<=maxLen):PC prog 161 [z0o u,z0k p] (z0l (z3t u p)):=by
 have c1:=ztr p hl a7;have a2:=c;have b8:(z0c u).length<=1100:=c;refine z14 2 (by simp only[pureD.pureL,z02,z1u,Z8]) (z1g _) (zqzj [20,58] func161 rfl (by decide+kernel) rfl ?_)
 by_cases hv:zbi p=true
 ·rw[hv]at c1;have h9:=(addr_of hv).1;unfold z3t;rw[if_pos hv];cases p with
  |nil =>
   repeat'(first|refine nxt ?_|((first|refine zqh fun K a=>?_|refine zqs (c1) ?_);simp(disch:=omega)only[go_sem,Z0,↓reduceIte,reduceCtorEq,Z2,Zh,Z1,z0k])|(refine zqd _ rfl ?_ ?_<;>intro c<;>(first|(cases c;done)|((try simp only[decide_eq_true_eq]at c);try omega)))|refine zqU ?_|(refine a _ ?_;clear a K))
   refine z06 ?_ Le.rsl;show pureD (.rsl true 8 [.agg (z08 u)])=true;simp only[pureD,pureD.pureL,z04,Z8]
  |cons s r =>
   have c2:=zw5 s;have c3:=zq5 u hs (by omega);have b6:(s::r).length=r.length+1:=rfl;have hz:ZO 0=0:=rfl;simp only[Za]at h9
   repeat'(first|refine nxt ?_|((first|refine z09 (N:=14) rfl fun K a=>?_|refine zqs (c1) ?_|refine zqs (c2) ?_|refine zqs (c3) ?_);simp(disch:=omega)only[go_sem,Z0,↓reduceIte,reduceCtorEq,Z2,Zh,Z1,z0k,Zf,Za,zlb])|(refine zqd _ rfl ?_ ?_<;>intro c<;>(first|(cases c;done)|((try simp only[decide_eq_false_iff_not]at c);try omega)))|(refine a _ ?_;clear a K))
   ·have y:z24 u s=[u]:=if_pos (by assumption);(refine z2a (fun b=>b.t 1=z0k (s::r)/\b.t 5=.osl 1 (z24 u s).length/\b.H 1=some (.row 27 (z24 u s).length ((z24 u s).flatMap z08))/\(2<=b.nx)) ?_ ?_);rotate_left;(rintro b ⟨p1,p5,a1,a8⟩);rotate_left
    ·(simp(disch:=omega)only[go_sem,Z0,Z1,and_self,z0k,y,Zf,Za,ZG,Zc,Zd,Ze])
    clear y;refine z33 fun K a=>?_;(try(simp(disch:=omega)only[go_sem]));repeat' skip
    refine a _ _ (zae (P:=prog) (id:=1) (e:=27) (k:=(z24 u s).length) (cs:=(z24 u s).flatMap z08) (by(simp(disch:=omega)only[go_sem,a1])) (by decide+kernel) (z6c _)) ?_;clear a K;have v0:z23 true 8 (z24 u s).length ((z24 u s).flatMap z08)=(z24 u s).map z0o:=z5a _ _ rfl
    repeat'(refine zqa ?_)
    (refine zqL (fun n b=>∃(k:_) (L:List T),n=r.length+1-k/\b.t 1=z0k (s::r)/\b.t 5=.rsl false 8 (L.map z0o)/\b.t 8=.int .i64 k/\(1<=k)/\(k<=r.length+1)/\(L=(r.take (k-1)).foldl z2z (z24 u s))) ?_ ?_);rintro n b ⟨k,L,rfl,t1,t5,t8,a9,b0,g⟩;rotate_left
    ·(refine⟨_,1,z24 u s,rfl,?_⟩);simp(disch:=omega)only[go_sem,Z0,Z1,p1,p5,true_and,Z3,v0];exact⟨rfl,rfl⟩
    have w:zbj L<=1210000:=by rw[g];exact z9q _ _ (z9p a2)
    by_cases G:k<r.length+1
    ·obtain⟨sk,A⟩:∃sk,sk=(s::r)[k]'G:=⟨_,rfl⟩
     have a0:(s::r)[k]'G=r[k-1]'(by omega):=by rw[ZT,dif_neg (by omega)]
     have a4:(z2z L sk).length<=1210000:=Zt (z7y _) (Zt (zbk _ _) w);have a3:L.length<=1210000:=Zt (z7y _) w;have Q:∀x∈L,x∈z0c u:=by rw[g];exact zct _ _ zbl
     have R:zv6 (.agg [.int .i64 s.kind,.str s.label]::r.map zb9) (k:Int)=some (.agg [.int .i64 sk.kind,.str sk.label]):=by
      unfold zv6;rw[if_pos ⟨by omega,by rw[Za,Zm];omega⟩,ZR];show ((s::r).map zb9)[k]?=some (zb9 sk);rw[Yi,Yb G,A];rfl
     repeat'(first|refine nxt ?_|((refine zqh fun K a=>?_);simp(disch:=omega)only[go_sem,Z0,↓reduceIte,reduceCtorEq,Zh,t1,t8,z0k,Za])|(refine zqd _ rfl ?_ ?_<;>intro c<;>(((try simp only[z05]at c);try omega)))|(refine a _ ?_;clear a K))
     (refine zqL (fun n b=>∃(i:_) (m:Nat),n=L.length-i/\b.t 1=z0k (s::r)/\b.t 5=.rsl false 8 (L.map z0o)/\b.t 8=.int .i64 k/\b.t 9=.osl m ((L.take i).flatMap (fun x=>x.kids.filter (atB sk))).length/\b.t 10=.int .i64 i/\b.H (m)=some (.row 27 ((L.take i).flatMap (fun x=>x.kids.filter (atB sk))).length (((L.take i).flatMap (fun x=>x.kids.filter (atB sk))).flatMap z08))/\(i<=L.length)/\(m<b.nx)) ?_ ?_);rintro n b ⟨i,m,rfl,v1,I,v8,J,v,o,b2,b3⟩;rotate_left
     ·(refine⟨_,0,b.nx,rfl,?_⟩);simp(disch:=omega)only[go_sem,Z0,t1,t5,t8,true_and,Z5,Z3,Z7,Zd,z0k];omega
     by_cases F:i<L.length
     ·have a6:L[i].kids.length<=1000000:=(z79 (z6m u hs _ (Q _ (Z6 F)))).1
      repeat'(first|refine nxt ?_|((refine zqh fun K a=>?_);simp(disch:=omega)only[go_sem,Z0,↓reduceIte,I,v])|(refine zqd _ rfl ?_ ?_<;>intro c<;>(((try simp only[z05]at c);try omega)))|(refine a _ ?_;clear a K))
      (refine zqL (fun n b=>∃(j:_),n=L[i].kids.length-j/\b.t 1=z0k (s::r)/\b.t 5=.rsl false 8 (L.map z0o)/\b.t 8=.int .i64 k/\b.t 9=.osl m ((L.take i).flatMap (fun x=>x.kids.filter (atB sk))++(L[i].kids.take j).filter (atB sk)).length/\b.t 10=.int .i64 i/\b.t 11=.int .i64 j/\b.H (m)=some (.row 27 ((L.take i).flatMap (fun x=>x.kids.filter (atB sk))++(L[i].kids.take j).filter (atB sk)).length (((L.take i).flatMap (fun x=>x.kids.filter (atB sk))++(L[i].kids.take j).filter (atB sk)).flatMap z08))/\(j<=L[i].kids.length)/\(m<b.nx)) ?_ ?_);rintro n b ⟨j,rfl,M,C,O,E,h,q,l,b4,b5⟩;rotate_left
      ·(refine⟨_,0,rfl,?_⟩);simp(disch:=omega)only[go_sem,Z0,v1,I,v8,J,v,o,true_and,Z7,Ze,z0k,Y2,Zz];omega
      have Z:=zf3 (s:=sk) F j;rw[Z9]at Z
      by_cases hj:j<L[i].kids.length
      ·have c5:=pc_at7 L[i].kids[j] sk;have d:=Z4 hj;have a5:k<(s::r).length:=G
       repeat'(first|refine nxt ?_|((first|refine zqh fun K a=>?_|refine zqe (by decide+kernel) fun K a=>?_|refine zqr fun K a=>?_|refine zqt (c5) ?_);simp(disch:=omega)only[go_sem,Z0,Zi,↓reduceIte,reduceCtorEq,Z2,Zh,Z1,M,C,O,E,h,q,l,z0k,z0l,R])|((first|refine zqd _ rfl (fun c=>?_) (fun c=>?_)|refine zqm _ rfl (fun c=>?_) (fun c=>?_))<;>(((try simp only[z05]at c);try omega)))|(refine a _ ?_;clear a K))
       ·have f:(L[i].kids.take (j+1)).filter (atB sk)=(L[i].kids.take j).filter (atB sk)++[L[i].kids[j]]:=by
         rw[d,Zn,Zq,if_pos (by assumption)];rfl
        (refine⟨_,?_,j+1,rfl,?_⟩);rotate_left;simp(disch:=omega)only[go_sem,Z0,M,C,O,E,h,q,l,true_and,Z5,Z3,Zb,Zc,Zd,Ze,f,Z9,Za,ZG,ZK,ZD];rotate_left
        ·omega
        ·omega
       ·have f:(L[i].kids.take (j+1)).filter (atB sk)=(L[i].kids.take j).filter (atB sk):=by
         rw[d,Zn,Zq,if_neg (by rw[‹atB sk L[i].kids[j]=false›];simp),Zz,Ze]
        (refine⟨_,?_,j+1,rfl,?_⟩);rotate_left;simp(disch:=omega)only[go_sem,Z0,M,C,O,E,h,q,l,true_and,Z5,Z3,Zb,f];rotate_left
        ·omega
        ·omega
      ·repeat'(first|refine nxt ?_|((first|refine zqh fun K a=>?_|refine zqr fun K a=>?_);simp(disch:=omega)only[go_sem,Z0,↓reduceIte,reduceCtorEq,Z2,C,h,q,z0l])|(refine zqd _ rfl ?_ ?_<;>intro c<;>(((try simp only[z05]at c);try omega)))|refine zqz ?_|(refine a _ ?_;clear a K))
       have U:L[i].kids.take j=L[i].kids:=Zl (by omega);have d:(L.take (i+1)).flatMap (fun x=>x.kids.filter (atB sk))=(L.take i).flatMap (fun x=>x.kids.filter (atB sk))++L[i].kids.filter (atB sk):=by
        rw[Z4 F,Zb,Zc,Zd,Ze]
       rw[U,<-d]at E l;(refine⟨_,?_,i+1,m,rfl,?_⟩);rotate_left;simp(disch:=omega)only[go_sem,Z0,M,C,O,E,h,l,true_and,Z5,Z3];rotate_left
       ·omega
       ·omega
     ·skip
      repeat'(first|refine nxt ?_|((refine z09 (N:=26) rfl fun K a=>?_);simp(disch:=omega)only[go_sem,Z0,↓reduceIte,I,v])|(refine zqd _ rfl ?_ ?_<;>intro c<;>(((try simp only[z05]at c);try omega)))|refine zqz ?_|(refine a _ ?_;clear a K))
      have z:L.take i=L:=Zl (by omega);have Y:(r.take (k+1-1)).foldl z2z (z24 u s)=z2z L sk:=by
       rw[g,show k+1-1=k-1+1 from by omega,Z4 (by omega),ZB,A,a0];rfl
      rw[z]at J o;have X:L.flatMap (fun x=>x.kids.filter (atB sk))=z2z L sk:=rfl;rw[X]at J o;have g1:z23 true 8 (z2z L sk).length ((z2z L sk).flatMap z08)=(z2z L sk).map z0o:=z5a _ _ rfl;refine zqr fun K a=>?_;simp(disch:=omega)only[go_sem,Z0,J];refine a _ ?_;clear a K;refine zqy (zbr _ (zae (P:=prog) (id:=m) (e:=27) (k:=(z2z L sk).length) (cs:=(z2z L sk).flatMap z08) (by(simp(disch:=omega)only[go_sem,o])) (by decide+kernel) (z6c _)) ?_)
      repeat'(first|((refine zqr fun K a=>?_);simp(disch:=omega)only[go_sem,Z0,↓reduceIte,v8,g1])|(refine a _ ?_;clear a K))
      (refine⟨_,?_,k+1,z2z L sk,rfl,?_⟩);rotate_left;simp(disch:=omega)only[go_sem,Z0,Z1,v1,I,v8,true_and,Z5,Z3,g1];rotate_left
      ·omega
      ·exact⟨rfl,by omega,Y.symm⟩
    ·skip
     repeat'(first|refine nxt ?_|((refine zqh fun K a=>?_);simp(disch:=omega)only[go_sem,Z0,↓reduceIte,t1,t5,t8,z0k,Za])|(refine zqd _ rfl ?_ ?_<;>intro c<;>(((try simp only[z05]at c);try omega)))|refine zqz ?_|refine zqU ?_|(refine a _ ?_;clear a K))
     have W:k=r.length+1:=by omega
     subst W;rw[Yg,Zg]at g;rw[goT,<-g];exact z06 (z1g L) (XX _)
   ·have y:z24 u s=(z0c u).filter (atB s):=if_neg (by rw[‹zj4 s=false›];simp);(refine zqL (fun n b=>∃(i:_),n=(z0c u).length-i/\b.t 1=z0k (s::r)/\b.t 5=.osl 1 (((z0c u).take i).filter (atB s)).length/\b.t 6=z0l (z0c u)/\b.t 7=.int .i64 i/\b.H 1=some (.row 27 (((z0c u).take i).filter (atB s)).length ((((z0c u).take i).filter (atB s)).flatMap z08))/\(i<=(z0c u).length)/\(2<=b.nx)) ?_ ?_);rintro n b ⟨i,rfl,q1,q5,q6,q7,B,b9,c0⟩;rotate_left
    ·(refine⟨_,0,rfl,?_⟩);simp(disch:=omega)only[go_sem,Z0,Z1,true_and,and_true,and_self,Z5,Z3,Z7,z0k,Zf];exact⟨rfl,rfl⟩
    by_cases F:i<(z0c u).length
    ·have c4:=pc_at7 (z0c u)[i] s;have d:=Z4 F;have b7:(((z0c u).take i).filter (atB s)).length<=1100:=by
      have:=List.length_filter_le (atB s) ((z0c u).take i);have h2:((z0c u).take i).length<=(z0c u).length:=by rw[ZE];omega
      unfold cntT at *;omega
     repeat'(first|refine nxt ?_|((first|refine zqh fun K a=>?_|refine zqe (by decide+kernel) fun K a=>?_|refine zqr fun K a=>?_|refine zqt (c4) ?_);simp(disch:=omega)only[go_sem,Z0,Zi,↓reduceIte,reduceCtorEq,Z2,Zh,Z1,q1,q5,q6,q7,B,z0k,z0l,Zf,Za,zlb])|((first|refine zqd _ rfl (fun c=>?_) (fun c=>?_)|refine zqm _ rfl (fun c=>?_) (fun c=>?_))<;>(((try simp only[z05]at c);try omega)))|(refine a _ ?_;clear a K))
     ·have f:((z0c u).take (i+1)).filter (atB s)=((z0c u).take i).filter (atB s)++[(z0c u)[i]]:=by
       rw[d,Zn,Zq,if_pos (by assumption)];rfl
      (refine⟨_,?_,i+1,rfl,?_⟩);rotate_left;simp(disch:=omega)only[go_sem,Z0,q1,q5,q6,q7,B,true_and,Z5,Z3,Zb,Zc,Zd,Ze,f,Z9,Za,ZG];rotate_left
      ·omega
      ·omega
     ·have f:((z0c u).take (i+1)).filter (atB s)=((z0c u).take i).filter (atB s):=by
       rw[d,Zn,Zq,if_neg (by rw[‹atB s (z0c u)[i]=false›];simp),Zz,Ze]
      (refine⟨_,?_,i+1,rfl,?_⟩);rotate_left;simp(disch:=omega)only[go_sem,Z0,q1,q5,q6,q7,B,true_and,Z5,Z3,f];rotate_left
      ·omega
      ·omega
    repeat'(first|refine nxt ?_|((refine z09 (N:=14) rfl fun K a=>?_);simp(disch:=omega)only[go_sem,Z0,↓reduceIte,q6,q7,z0l])|(refine zqd _ rfl ?_ ?_<;>intro c<;>(((try simp only[z05]at c);try omega)))|refine zqz ?_|(refine a _ ?_;clear a K))
    have z:i=(z0c u).length:=by omega
    subst z;rw[Zg,<-y]at q5 B;(refine z2a (fun b=>b.t 1=z0k (s::r)/\b.t 5=.osl 1 (z24 u s).length/\b.H 1=some (.row 27 (z24 u s).length ((z24 u s).flatMap z08))/\(2<=b.nx)) ?_ ?_);rotate_left;(rintro b ⟨p1,p5,a1,a8⟩);rotate_left
    ·(simp(disch:=omega)only[go_sem,Z0,true_and,q1,q5,B]);omega
    clear y;refine z33 fun K a=>?_;(try(simp(disch:=omega)only[go_sem]));repeat' skip
    refine a _ _ (zae (P:=prog) (id:=1) (e:=27) (k:=(z24 u s).length) (cs:=(z24 u s).flatMap z08) (by(simp(disch:=omega)only[go_sem,a1])) (by decide+kernel) (z6c _)) ?_;clear a K;have v0:z23 true 8 (z24 u s).length ((z24 u s).flatMap z08)=(z24 u s).map z0o:=z5a _ _ rfl
    repeat'(refine zqa ?_)
    (refine zqL (fun n b=>∃(k:_) (L:List T),n=r.length+1-k/\b.t 1=z0k (s::r)/\b.t 5=.rsl false 8 (L.map z0o)/\b.t 8=.int .i64 k/\(1<=k)/\(k<=r.length+1)/\(L=(r.take (k-1)).foldl z2z (z24 u s))) ?_ ?_);rintro n b ⟨k,L,rfl,t1,t5,t8,a9,b0,g⟩;rotate_left
    ·(refine⟨_,1,z24 u s,rfl,?_⟩);simp(disch:=omega)only[go_sem,Z0,Z1,p1,p5,true_and,Z3,v0];exact⟨rfl,rfl⟩
    have w:zbj L<=1210000:=by rw[g];exact z9q _ _ (z9p a2)
    by_cases G:k<r.length+1
    ·obtain⟨sk,A⟩:∃sk,sk=(s::r)[k]'G:=⟨_,rfl⟩
     have a0:(s::r)[k]'G=r[k-1]'(by omega):=by rw[ZT,dif_neg (by omega)]
     have a4:(z2z L sk).length<=1210000:=Zt (z7y _) (Zt (zbk _ _) w);have a3:L.length<=1210000:=Zt (z7y _) w;have Q:∀x∈L,x∈z0c u:=by rw[g];exact zct _ _ zbl
     have R:zv6 (.agg [.int .i64 s.kind,.str s.label]::r.map zb9) (k:Int)=some (.agg [.int .i64 sk.kind,.str sk.label]):=by
      unfold zv6;rw[if_pos ⟨by omega,by rw[Za,Zm];omega⟩,ZR];show ((s::r).map zb9)[k]?=some (zb9 sk);rw[Yi,Yb G,A];rfl
     repeat'(first|refine nxt ?_|((refine zqh fun K a=>?_);simp(disch:=omega)only[go_sem,Z0,↓reduceIte,reduceCtorEq,Zh,t1,t8,z0k,Za])|(refine zqd _ rfl ?_ ?_<;>intro c<;>(((try simp only[z05]at c);try omega)))|(refine a _ ?_;clear a K))
     (refine zqL (fun n b=>∃(i:_) (m:Nat),n=L.length-i/\b.t 1=z0k (s::r)/\b.t 5=.rsl false 8 (L.map z0o)/\b.t 8=.int .i64 k/\b.t 9=.osl m ((L.take i).flatMap (fun x=>x.kids.filter (atB sk))).length/\b.t 10=.int .i64 i/\b.H (m)=some (.row 27 ((L.take i).flatMap (fun x=>x.kids.filter (atB sk))).length (((L.take i).flatMap (fun x=>x.kids.filter (atB sk))).flatMap z08))/\(i<=L.length)/\(m<b.nx)) ?_ ?_);rintro n b ⟨i,m,rfl,v1,I,v8,J,v,o,b2,b3⟩;rotate_left
     ·(refine⟨_,0,b.nx,rfl,?_⟩);simp(disch:=omega)only[go_sem,Z0,t1,t5,t8,true_and,Z5,Z3,Z7,Zd,z0k];omega
     by_cases F:i<L.length
     ·have a6:L[i].kids.length<=1000000:=(z79 (z6m u hs _ (Q _ (Z6 F)))).1
      repeat'(first|refine nxt ?_|((refine zqh fun K a=>?_);simp(disch:=omega)only[go_sem,Z0,↓reduceIte,I,v])|(refine zqd _ rfl ?_ ?_<;>intro c<;>(((try simp only[z05]at c);try omega)))|(refine a _ ?_;clear a K))
      (refine zqL (fun n b=>∃(j:_),n=L[i].kids.length-j/\b.t 1=z0k (s::r)/\b.t 5=.rsl false 8 (L.map z0o)/\b.t 8=.int .i64 k/\b.t 9=.osl m ((L.take i).flatMap (fun x=>x.kids.filter (atB sk))++(L[i].kids.take j).filter (atB sk)).length/\b.t 10=.int .i64 i/\b.t 11=.int .i64 j/\b.H (m)=some (.row 27 ((L.take i).flatMap (fun x=>x.kids.filter (atB sk))++(L[i].kids.take j).filter (atB sk)).length (((L.take i).flatMap (fun x=>x.kids.filter (atB sk))++(L[i].kids.take j).filter (atB sk)).flatMap z08))/\(j<=L[i].kids.length)/\(m<b.nx)) ?_ ?_);rintro n b ⟨j,rfl,M,C,O,E,h,q,l,b4,b5⟩;rotate_left
      ·(refine⟨_,0,rfl,?_⟩);simp(disch:=omega)only[go_sem,Z0,v1,I,v8,J,v,o,true_and,Z7,Ze,z0k,Y2,Zz];omega
      have Z:=zf3 (s:=sk) F j;rw[Z9]at Z
      by_cases hj:j<L[i].kids.length
      ·have c5:=pc_at7 L[i].kids[j] sk;have d:=Z4 hj;have a5:k<(s::r).length:=G
       repeat'(first|refine nxt ?_|((first|refine zqh fun K a=>?_|refine zqe (by decide+kernel) fun K a=>?_|refine zqr fun K a=>?_|refine zqt (c5) ?_);simp(disch:=omega)only[go_sem,Z0,Zi,↓reduceIte,reduceCtorEq,Z2,Zh,Z1,M,C,O,E,h,q,l,z0k,z0l,R])|((first|refine zqd _ rfl (fun c=>?_) (fun c=>?_)|refine zqm _ rfl (fun c=>?_) (fun c=>?_))<;>(((try simp only[z05]at c);try omega)))|(refine a _ ?_;clear a K))
       ·have f:(L[i].kids.take (j+1)).filter (atB sk)=(L[i].kids.take j).filter (atB sk)++[L[i].kids[j]]:=by
         rw[d,Zn,Zq,if_pos (by assumption)];rfl
        (refine⟨_,?_,j+1,rfl,?_⟩);rotate_left;simp(disch:=omega)only[go_sem,Z0,M,C,O,E,h,q,l,true_and,Z5,Z3,Zb,Zc,Zd,Ze,f,Z9,Za,ZG,ZK,ZD];rotate_left
        ·omega
        ·omega
       ·have f:(L[i].kids.take (j+1)).filter (atB sk)=(L[i].kids.take j).filter (atB sk):=by
         rw[d,Zn,Zq,if_neg (by rw[‹atB sk L[i].kids[j]=false›];simp),Zz,Ze]
        (refine⟨_,?_,j+1,rfl,?_⟩);rotate_left;simp(disch:=omega)only[go_sem,Z0,M,C,O,E,h,q,l,true_and,Z5,Z3,Zb,f];rotate_left
        ·omega
        ·omega
      ·repeat'(first|refine nxt ?_|((first|refine zqh fun K a=>?_|refine zqr fun K a=>?_);simp(disch:=omega)only[go_sem,Z0,↓reduceIte,reduceCtorEq,Z2,C,h,q,z0l])|(refine zqd _ rfl ?_ ?_<;>intro c<;>(((try simp only[z05]at c);try omega)))|refine zqz ?_|(refine a _ ?_;clear a K))
       have U:L[i].kids.take j=L[i].kids:=Zl (by omega);have d:(L.take (i+1)).flatMap (fun x=>x.kids.filter (atB sk))=(L.take i).flatMap (fun x=>x.kids.filter (atB sk))++L[i].kids.filter (atB sk):=by
        rw[Z4 F,Zb,Zc,Zd,Ze]
       rw[U,<-d]at E l;(refine⟨_,?_,i+1,m,rfl,?_⟩);rotate_left;simp(disch:=omega)only[go_sem,Z0,M,C,O,E,h,l,true_and,Z5,Z3];rotate_left
       ·omega
       ·omega
     ·skip
      repeat'(first|refine nxt ?_|((refine z09 (N:=26) rfl fun K a=>?_);simp(disch:=omega)only[go_sem,Z0,↓reduceIte,I,v])|(refine zqd _ rfl ?_ ?_<;>intro c<;>(((try simp only[z05]at c);try omega)))|refine zqz ?_|(refine a _ ?_;clear a K))
      have z:L.take i=L:=Zl (by omega);have Y:(r.take (k+1-1)).foldl z2z (z24 u s)=z2z L sk:=by
       rw[g,show k+1-1=k-1+1 from by omega,Z4 (by omega),ZB,A,a0];rfl
      rw[z]at J o;have X:L.flatMap (fun x=>x.kids.filter (atB sk))=z2z L sk:=rfl;rw[X]at J o;have g1:z23 true 8 (z2z L sk).length ((z2z L sk).flatMap z08)=(z2z L sk).map z0o:=z5a _ _ rfl;refine zqr fun K a=>?_;simp(disch:=omega)only[go_sem,Z0,J];refine a _ ?_;clear a K;refine zqy (zbr _ (zae (P:=prog) (id:=m) (e:=27) (k:=(z2z L sk).length) (cs:=(z2z L sk).flatMap z08) (by(simp(disch:=omega)only[go_sem,o])) (by decide+kernel) (z6c _)) ?_)
      repeat'(first|((refine zqr fun K a=>?_);simp(disch:=omega)only[go_sem,Z0,↓reduceIte,v8,g1])|(refine a _ ?_;clear a K))
      (refine⟨_,?_,k+1,z2z L sk,rfl,?_⟩);rotate_left;simp(disch:=omega)only[go_sem,Z0,Z1,v1,I,v8,true_and,Z5,Z3,g1];rotate_left
      ·omega
      ·exact⟨rfl,by omega,Y.symm⟩
    ·skip
     repeat'(first|refine nxt ?_|((refine zqh fun K a=>?_);simp(disch:=omega)only[go_sem,Z0,↓reduceIte,t1,t5,t8,z0k,Za])|(refine zqd _ rfl ?_ ?_<;>intro c<;>(((try simp only[z05]at c);try omega)))|refine zqz ?_|refine zqU ?_|(refine a _ ?_;clear a K))
     have W:k=r.length+1:=by omega
     subst W;rw[Yg,Zg]at g;rw[goT,<-g];exact z06 (z1g L) (XX _)
 ·rw[ZA]at hv;rw[hv]at c1;unfold z3t;rw[if_neg (by rw[hv];simp)]
  repeat'(first|refine nxt ?_|((first|refine zqh fun K a=>?_|refine zqs (c1) ?_);simp(disch:=omega)only[go_sem,Z0,↓reduceIte])|(refine zqd _ rfl ?_ ?_<;>intro c<;>(first|(cases c;done)|((try omega))))|refine zqU ?_|(refine a _ ?_;clear a K))
  exact z06 rfl (Le.nil 8)
theorem pc_Find7(u:T)(v:szB u=true)(c:cntT u<=1100)(p:List Stp)(r:p.length<=maxLen)(g:∀s∈p,s.label.size<=maxLen):PC prog 84 [z0o u,z0k p] (z2k (z6g u p)):=by
 have o:=pc_Units7 u v c p r g;have y:=zpb (u:=u) (p:=p) c;refine z14 2 (by simp only[pureD.pureL,z02,z1u,Z8]) (z68 _) (zqzj [8] func84 rfl (by decide+kernel) rfl ?_)
 repeat'(first|refine nxt ?_|((first|refine zqh fun K b=>?_|refine zqs (o) ?_);simp(disch:=omega)only[go_sem,Z0,↓reduceIte,reduceCtorEq,Z2,Zh,Z1])|(refine b _ ?_;clear b K))
 (refine zqL (fun n d=>∃(k:_),n=(z3t u p).length-k/\d.t 5=.osl 1 k/\d.t 6=z0l (z3t u p)/\d.t 7=.int .i64 k/\d.H 1=some (.row 23 k ((((z3t u p).take k).map T.id).flatMap z0a))/\(k<=(z3t u p).length)/\(2<=d.nx)) ?_ ?_);rintro n d ⟨k,rfl,i,j,m,a,w,x⟩;rotate_left
 ·(refine⟨_,0,rfl,?_⟩);simp(disch:=omega)only[go_sem,Z0,Z1,and_self,Z7,Zd,Zk]
  try simp
 by_cases q:k<(z3t u p).length
 ·have h:=Z4 q
  repeat'(first|refine nxt ?_|((first|refine zqh fun K b=>?_|refine zqr fun K b=>?_);simp(disch:=omega)only[go_sem,Z0,↓reduceIte,reduceCtorEq,Z2,Zh,Z1,i,j,m,a,z0l])|(refine zqd _ rfl ?_ ?_<;>intro c<;>(((try simp only[z05]at c);try omega)))|(refine b _ ?_;clear b K))
  (refine⟨_,?_,k+1,rfl,?_⟩);rotate_left;simp(disch:=omega)only[go_sem,Z0,i,j,m,a,true_and,Z5,Z3,Zb,Zc,Zd,Zy,Zf,Zk,Ze,h,z0a];rotate_left
  ·omega
  ·omega
 ·repeat'(first|refine nxt ?_|((refine zqh fun K b=>?_);simp(disch:=omega)only[go_sem,Z0,↓reduceIte,i,j,m,z0l])|(refine zqd _ rfl ?_ ?_<;>intro c<;>(((try simp only[z05]at c);try omega)))|refine zqz ?_|refine zqU ?_|(refine b _ ?_;clear b K))
  have e:k=(z3t u p).length:=by omega
  subst e;rw[Zg]at a;have f:(z3t u p).length=((z3t u p).map T.id).length:=by simp
  rw[f]at a⊢;exact z3j (z2b (l:=(z3t u p).map T.id) 0 a z25 ze7 (fun _=>rfl) (fun _=>rfl))
theorem ztc(u:T)(k:szB u=true)(a:cntT u<=1100)(p:List Stp)(j:p.length<=maxLen)(d:∀s∈p,s.label.size<=maxLen):PC prog 30 [z0o u,z0k p] (.tup [z0z (z1e u p).1,.int .i64 (z1e u p).2]):=by
 have c:=pc_Find7 u k a p j d;refine z14 3 (by simp only[pureD.pureL,z02,z1u,Z8]) rfl (zqzj [] func30 rfl (by decide+kernel) rfl ?_);rw[show Tryz.f30.results.toList=[.cell 4 23,.tmp 5] from rfl];have l:ZO 0=0:=rfl;rcases ZS (z6g u p).length 1 with h|h|h
 ·have e:z6g u p=[]:=Y9 (by omega);rw[one_nil e];rw[e]at c
  repeat'(first|refine nxt ?_|((first|refine zqh fun K b=>?_|refine zqs (c) ?_);simp(disch:=omega)only[go_sem,Z0,↓reduceIte,Z2,Z1,z2k])|(refine zqd _ rfl ?_ ?_<;>intro a<;>(first|(cases a;done)|((try simp only[decide_eq_true_eq]at a);try omega)))|refine zqu (by(simp(disch:=omega)only[go_sem,Z0,↓reduceIte,Z2,Z1]);rfl) rfl ?_|(refine b _ ?_;clear b K))
  exact z06 rfl (XX _)
 ·rw[one_one h];obtain⟨i,f⟩:∃i,z6g u p=[i]:=Yd.1 h;have g:(z6g u p)[0]'(by omega)=i:=by simp only[f,ZI]
  rw[g];rw[f]at c
  repeat'(first|refine nxt ?_|((first|refine zqh fun K b=>?_|refine zqs (c) ?_);simp(disch:=omega)only[go_sem,Z0,↓reduceIte,reduceCtorEq,Z2,Z1,z2k,zlb,Zf,Zk])|(refine zqd _ rfl ?_ ?_<;>intro a<;>(first|(cases a;done)|((try simp only[decide_eq_false_iff_not]at a);try omega)))|refine zqu (by(simp(disch:=omega)only[go_sem,Z0,↓reduceIte,Z2,Z1]);rfl) rfl ?_|(refine b _ ?_;clear b K))
  exact z06 rfl (XX _)
 ·rw[one_two h]
  repeat'(first|refine nxt ?_|((first|refine zqh fun K b=>?_|refine zqs (c) ?_);simp(disch:=omega)only[go_sem,Z0,↓reduceIte,Z2,Z1,z2k])|(refine zqd _ rfl ?_ ?_<;>intro a<;>(((try simp only[z05]at a);try omega)))|refine zqu (by(simp(disch:=omega)only[go_sem,Z0,↓reduceIte,Z2,Z1]);rfl) rfl ?_|(refine b _ ?_;clear b K))
  exact z06 rfl (XX _)
namespace Tr
end Tr
theorem zxg(s:Stp):PC prog 128 [zb9 s] (.bool (zj4 s)):=by
 refine z14 1 rfl rfl (zqzj [] func128 rfl (by decide+kernel) rfl ?_)
 repeat'(first|((refine zqh fun K d=>?_);simp(disch:=omega)only[go_sem,Z0,↓reduceIte,reduceCtorEq,Z2])|refine nxt ?_|refine zqU ?_|(refine d _ ?_;clear d K)|(refine zqf (fun c=>?_) (fun c=>?_)<;>(have a:=c;try simp only[z05]at a)<;>((first|have b:=eq_false a|have b:=eq_true a);simp(disch:=omega)only[go_sem,Z0,↓reduceIte,reduceCtorEq,Z2,b];clear c b;try omega)))
 all_goals exact z01 (by unfold zj4 z3h;first|(simp_all;done)|(simp_all;exact decide_eq_decide.2 ZU))
theorem zl1(u:T)(s:Stp):PC prog 131 [z0o u,zb9 s] (.bool (atB s u)):=by
 refine z14 1 (by simp only[pureD.pureL,z02];rfl) rfl (zqzj [] func131 rfl (by decide+kernel) rfl ?_)
 repeat'(first|((refine zqh fun K d=>?_);simp(disch:=omega)only[go_sem,Z0,↓reduceIte,reduceCtorEq,Z2])|refine nxt ?_|refine zqU ?_|(refine d _ ?_;clear d K)|(refine zqf (fun c=>?_) (fun c=>?_)<;>(have a:=c;try simp only[z05]at a)<;>((first|have b:=eq_false a|have b:=eq_true a);simp(disch:=omega)only[go_sem,Z0,↓reduceIte,reduceCtorEq,Z2,b];clear c b;try omega)))
 all_goals exact z01 (by unfold atB;first|(simp_all;done)|(simp_all;exact decide_eq_decide.2 ZU))
theorem pc_ValidA(p:List Stp)(y:p.length<=maxLen)(z:∀s∈p,s.label.size<=maxLen):PC prog 124 [z0k p] (.bool (zbi p)):=by
 unfold maxLen at y;have w:=fun(i:Nat) (h:i<p.length)=>zxg p[i];have x:=fun(i:Nat) (h:i<p.length)=>zal p[i].label (z _ (Z6 h));refine z14 1 (by simp only[pureD.pureL,z1u,Z8]) rfl (zqzj [] func124 rfl (by decide+kernel) rfl ?_)
 repeat'(first|refine nxt ?_|((refine zqh fun K a=>?_);simp(disch:=omega)only[go_sem,Z0,z0k])|(refine a _ ?_;clear a K))
 (refine zqL (fun r l=>∃(k:_),r=p.length-k/\l.t 0=z0k p/\l.t 5=z0k p/\l.t 6=.int .i64 p.length/\l.t 7=.int .i64 k/\(k<=p.length)/\(∀i,(g:i<k)->(h:i<p.length)->okS i p[i]=true)) ?_ ?_);rintro r l ⟨k,rfl,u,v,o,q,A,j⟩;rotate_left
 ·(refine⟨_,0,rfl,?_⟩);simp(disch:=omega)only[go_sem,Z0,true_and,Z7,z0k];exact fun i g=>by omega
 by_cases n:k<p.length
 ·have m:okS k p[k]=true->∀i,(g:i<k+1)->(h:i<p.length)->okS i p[i]=true:=fun f i g h=>by
   by_cases e:i=k
   ·subst e;exact f
   ·exact j i (by omega) h
  repeat'(first|refine nxt ?_|((first|refine zqh fun K a=>?_|refine zqr fun K a=>?_|refine zqs (w k n) ?_|refine zqs (x k n) ?_);simp(disch:=omega)only[go_sem,Z0,↓reduceIte,reduceCtorEq,Z2,Z1,v,o,q,z0k])|((first|refine zqd _ rfl (fun d=>?_) (fun d=>?_)|refine zqm _ rfl (fun d=>?_) (fun d=>?_))<;>(first|(cases d;done)|((try simp only[z05]at d);try omega)))|refine zqz ?_|refine zqU ?_|(refine a _ ?_;clear a K)|(refine zqf (fun f=>?_) (fun f=>?_)<;>(have b:=f;try simp only[z05]at b)<;>((first|have c:=eq_false b|have c:=eq_true b);simp(disch:=omega)only[go_sem,Z0,↓reduceIte,reduceCtorEq,Z2,Z1,c];clear f c;try omega)))
  all_goals first
   |exact z01 (zvo n (okS_no (by first|(left;omega)|(right;assumption)) (by first|(left;omega)|(right;left;omega)|(right;right;assumption)))).symm
   |skip
  all_goals
   (refine⟨_,?_,k+1,rfl,?_⟩);rotate_left;simp(disch:=omega)only[go_sem,Z0,u,v,o,q,true_and,Z5,Z3];rotate_left
   ·omega
   ·exact⟨by omega,m (by first|exact zw3 (by omega) (by assumption)|exact zw4 (by omega) (by omega) (by assumption))⟩
 ·repeat'(first|((refine zqh fun K a=>?_);simp(disch:=omega)only[go_sem,Z0,↓reduceIte,u,o,q,z0k])|(refine zqd _ rfl ?_ ?_<;>intro d<;>(((try simp only[z05]at d);try omega)))|refine nxt ?_|refine zqz ?_|refine zqU ?_|(refine a _ ?_;clear a K))
  refine z01 ?_;unfold zbi;rw[decide_eq_true (p:=∀i,(h:i<p.length)->okS i p[i]=true) fun i g=>j i (by omega) g,Y5];simp only[decide_eq_decide];omega
theorem eff_each{σ:Type}{g:FuncId}{cap:List D}{lo:Nat}{I:σ->HM->Prop}(step:T->σ->σ)(E:Low lo I)(m:σ->Nat)(M:Nat)(hm:∀x s,m (step x s)<=m s+1) :
  ∀u:T,fitB u=true->(∀x∈z0c u,∀s,m s<M->Eff prog g (z0o x::cap) lo I s (step x s) (.tup [])) ->
  ∀s,m s+(z0c u).length<=M->Eff prog 129 [z0o u,.fn g cap] lo I s ((z0c u).foldl (fun s x=>step x s) s) (.tup []):=by
 refine z4a fun u j v w s hM=>?_;obtain⟨e,q,h3,h4⟩:=(zbg u).1 v;have j:=fun k J=>j k J (h4 k J) (fun x hx=>w x (z31 J hx));have Z:(z0c u).length=1+(u.kids.flatMap z0c).length:=by rw[z1l,Za,Nat.add_comm]
 have w:=w u (z1t u) s (by omega);have Q:=hm u s;unfold maxLen at h3;have a:(z0c u).foldl (fun s x=>step x s) s=(u.kids.flatMap z0c).foldl (fun s x=>step x s) (step u s):=by rw[z1l];rfl
 rw[a];clear a;generalize step u s=C at w Q⊢;refine zbs E rfl fun H n P hs=>?_;refine(zqzj [] func129 rfl (by decide+kernel) rfl ?_)
 repeat'(first|((refine zqh fun K b=>?_);simp(disch:=omega)only[go_sem,Z0,↓reduceIte,Z2,Z1])|(refine b _ ?_;clear b K))
 refine z8l w (by show lo<=n+1;omega) (E.loc s H _ (fun id G=>z5v (by omega)) hs) fun X R f=>?_;have F:X n=some (.box 27 (z08 u)):=(f n P).trans z3k;have L:∀id,lo<=id->id<n->X id=H id:=fun id e q=>(f id e).trans (z5v (by omega));clear f;(try(simp(disch:=omega)only[go_sem]));repeat'(first|((refine zqh fun K b=>?_);simp(disch:=omega)only[go_sem,Z0,↓reduceIte,reduceCtorEq,Z2,F])|refine nxt ?_|(refine b _ ?_;clear b K))
 (refine zqL (fun mz c=>∃(i:_) (p:_),mz=u.kids.length-i/\c.t 1=.fn g cap/\c.t 10=z0l u.kids/\c.t 11=.int .i64 u.kids.length/\c.t 12=.int .i64 i/\(i<=u.kids.length)/\(n<c.nx)/\(I p c.H)/\(((u.kids.take i).flatMap z0c).foldl (fun s x=>step x s) C=p)/\(∀id,lo<=id->id<n->c.H id=H id)) ?_ ?_);rintro mz c ⟨i,p,rfl,q1,y,z,o,a0,a1,A,d,B⟩;rotate_left
 ·(refine⟨_,0,C,rfl,?_⟩);simp(disch:=omega)only[go_sem,Z0,true_and,Z7,Zd,z0l];exact⟨by omega,R,rfl,L⟩
 have j:=fun(h:i<u.kids.length)=>j u.kids[i] (Z6 h) p
 repeat'(first|((first|refine zqh fun K b=>?_|refine zqr fun K b=>?_);simp(disch:=omega)only[go_sem,Z0,↓reduceIte,reduceCtorEq,Z2,Z1,q1,y,z,o,z0l])|(refine zqd _ rfl ?_ ?_<;>intro hc<;>(((try simp only[z05]at hc);try omega)))|refine nxt ?_|refine zqz ?_|refine zqU ?_|(refine b _ ?_;clear b K))
 ·have Y:i<u.kids.length:=by omega
  have O:∀(l:List T) (s:σ),m (l.foldl (fun s x=>step x s) s)<=m s+l.length:=fun l=>by
   induction l with
   |nil=>intro s;simp
   |cons x l W=>intro s;have e:=W (step x s);have q:=hm x s;simp only[Ym,Za];omega
  have j:=j Y (by
   have e:=O ((u.kids.take i).flatMap z0c) C;rw[d]at e;have q:(u.kids.flatMap z0c).length=((u.kids.take i).flatMap z0c).length+((z0c u.kids[i]).length+((u.kids.drop (i+1)).flatMap z0c).length):=by
    rw[<-Z9,<-Zc,List.getElem_cons_drop,<-Z9,<-Zb,ZY]
   omega)
  have a:((u.kids.take (i+1)).flatMap z0c).foldl (fun s x=>step x s) C=(z0c u.kids[i]).foldl (fun s x=>step x s) p:=by
   rw[Z4 Y,Zb,ZB,d];simp
  refine z8l j (by show lo<=c.nx+1;omega) (E.loc p c.H _ (fun id G=>(z5v (by omega)).trans (z5v (by omega))) A) fun H2 U r=>?_;have N:∀id,lo<=id->id<n->H2 id=H id:=fun id e q=>((r id e).trans ((z5v (by omega)).trans (z5v (by omega)))).trans (B id e q);clear r;(try(simp(disch:=omega)only[go_sem]));repeat'(first|((refine zqr fun K b=>?_);simp(disch:=omega)only[go_sem,Z0,↓reduceIte,o])|refine nxt ?_|(refine b _ ?_;clear b K))
  (refine⟨_,?_,i+1,(z0c u.kids[i]).foldl (fun s x=>step x s) p,rfl,?_⟩);rotate_left;simp(disch:=omega)only[go_sem,Z0,q1,y,z,o,true_and,Z5,Z3];rotate_left
  ·omega
  ·exact⟨by omega,U,a,N⟩
 ·have:u.kids.take i=u.kids:=Zl (by omega);rw[this]at d;rw[d];simp(disch:=omega)only[go_sem];exact⟨A,B⟩
def zsv(u:T)(p:List Stp)(l:List T):List HObj:=[.box 27 (z08 u),.box 37 [z0k p],.box 25 [.osl 3 l.length],.row 27 l.length (l.flatMap z08)]
theorem low_F(u:T)(p:List Stp):Low 4 fun l H=>∀j,j<4->H j=(zsv u p l)[j]?:=zni (zsv u p) (fun _=>rfl) fun l o a=>by
 simp only[zsv,Y3,List.not_mem_nil,or_false]at a;rcases a with rfl|rfl|rfl|rfl
 ·exact zgi _ _
 ·exact z58 4 [z0k p] (by simp only[pureD.pureL,z1u,Z8])
 ·rfl
 ·exact z58 _ _ (z6c l)
def addF(s:Stp)(x:T)(l:List T):List T:=if atB s x=true then l++[x] else l
theorem zsw(s:Stp):∀(l a:List T),l.foldl (fun a x=>addF s x a) a=a++l.filter (atB s)
 |[],a=>by simp
 |x::l,a=>by
  rw[Ym,zsw s l,Zq];unfold addF;split<;>simp
theorem eff_found1(u x:T)(s:Stp)(r:List Stp)(l:List T)(B:l.length<1000000):Eff prog 130 [z0o x,.ptr 1 0,.ptr 2 0] 4 (fun l H=>∀j,j<4->H j=(zsv u (s::r) l)[j]?) l (addF s x l) (.tup []):=by
 refine zbs (low_F u (s::r)) rfl fun H c A h=>?_;have w:H 0=some (.box 27 (z08 u)):=h 0 (by omega);have o:H 1=some (.box 37 [z0k (s::r)]):=h 1 (by omega);have y:H 2=some (.box 25 [.osl 3 l.length]):=h 2 (by omega);have z:H 3=some (.row 27 l.length (l.flatMap z08)):=h 3 (by omega);have f:(1==c)=false:=by simp;omega
 have g:(0==c)=false:=by simp;omega
 have a:(2==c)=false:=by simp;omega
 have b:(3==c)=false:=by simp;omega
 have q:=zl1 x s;have C:ZO 0=0:=rfl;refine(zqzj [600014,900003,600002,900002] func130 rfl (by decide+kernel) rfl ?_);unfold addF;have d:([Value.int .i64 0,Value.int .i64 0,Value.int .i64 0,Value.int .i64 0,Value.string ⟨#[]⟩,Value.slice none 0 0,Value.slice none 0 0,Value.slice none 0 0].all fun x=>x.oneCell')=true:=rfl;have e:(l.flatMap z08).length=l.length*8:=z6l z0h l;have m:l.length*8<=(l.flatMap z08).length:=Nat.le_of_eq e.symm;have n:z1d (l.flatMap z08++[.int .i64 0,.int .i64 0,.int .i64 0,.int .i64 0,.str ⟨#[]⟩,.nil,.nil,.nil]) (l.length*8) (z08 x)=l.flatMap z08++z08 x:=by
  rw[<-e];have:=ze0 (z08 x) (l.flatMap z08) [.int .i64 0,.int .i64 0,.int .i64 0,.int .i64 0,.str ⟨#[]⟩,.nil,.nil,.nil] 0;rw[Yq]at this;rw[this,z2d _ _ (by rw[z0h];rfl)]
 repeat'(first|((first|refine zqh fun K i=>?_|refine zqe (by decide+kernel) fun K i=>?_|refine zqq (by decide+kernel) fun K i=>?_|refine zqt (q) ?_);simp(disch:=omega)only[go_sem,Z0,Zi,↓reduceIte,reduceCtorEq,Z2,Zh,Z1,Zs,o,y,z,f,a,b,z0k,Zf,Za,zlb,d,n,m])|((refine zqm _ rfl (fun p=>?_) (fun p=>?_))<;>(((try simp only[z05]at p);try omega)))|refine nxt ?_|refine zqU ?_|(refine i _ ?_;clear i K))
 ·rw[if_pos (by assumption)];simp(disch:=omega)only[go_sem];refine⟨fun j k=>?_,fun id t v=>?_⟩
  ·match j,k with
   |0,_=>simp[g,w,zsv]
   |1,_=>simp[f,o,zsv]
   |2,_=>simp[a,zsv]
   |3,_=>simp[b,zsv]
  ·rw[show (id==2)=false from by simp;omega,show (id==3)=false from by simp;omega,show (id==c)=false from by simp;omega];rfl
 ·rw[if_neg (by rw[‹atB s x=false›];simp)];simp(disch:=omega)only[go_sem];refine⟨fun j k=>?_,fun id t v=>?_⟩
  ·rw[show (j==c)=false from by simp;omega];exact h j k
  ·rw[show (id==c)=false from by simp;omega];rfl
theorem pc_found(u:T)(hs:szB u=true)(f:cntT u<=1100)(p:List Stp)(hl:p.length<=maxLen)(c9:∀s∈p,s.label.size<=maxLen):PC prog 62 [z0o u,z0k p] (z0l (z3t u p)):=by
 have c1:=pc_ValidA p hl c9;have c3:=f;have e5:(z0c u).length<=1100:=f;refine z14 2 (by simp only[pureD.pureL,z02,z1u,Z8]) (z1g _) (zqzj [8] func62 rfl (by decide+kernel) rfl ?_)
 by_cases hv:zbi p=true
 ·rw[hv]at c1;have h9:=(addr_of hv).1;unfold z3t;rw[if_pos hv]
  repeat'(first|refine zqj ?_|((first|refine z09 (N:=3) rfl fun K d=>?_|refine zqs (c1) ?_);simp(disch:=omega)only[go_sem,Z0,↓reduceIte,Z2,z0k])|(refine zqd _ rfl ?_ ?_<;>intro f<;>(first|(cases f;done)|((try omega))))|refine zqb ?_|(refine d _ ?_;clear d K))
  cases p with
  |nil =>
   repeat'(first|((refine zqh fun K d=>?_);simp(disch:=omega)only[go_sem,Z0,↓reduceIte,reduceCtorEq,Z2,Zh,Z1])|((refine zqm _ rfl (fun f=>?_) (fun f=>?_))<;>(first|(cases f;done)|((try simp only[decide_eq_true_eq]at f);try omega)))|refine zqa ?_|refine zqn ?_|refine zqx ?_|refine zqzb ?_|refine zqU ?_|(refine d _ ?_;clear d K))
   refine z06 ?_ Le.rsl;show pureD (.rsl true 8 [.agg (z08 u)])=true;simp only[pureD,pureD.pureL,z04,Z8]
  |cons s r =>
   have c2:=zxg s;have hz:ZO 0=0:=rfl;simp only[Za]at h9
   by_cases hb:zj4 s=true
   ·have b2:z24 u s=[u]:=if_pos hb;have c7:(z24 u s).map z0o=[.agg (z08 u)]:=by rw[b2];rfl
    rw[hb]at c2
    repeat'(first|refine zqj ?_|((first|refine zqh fun K d=>?_|refine zqr fun K d=>?_|refine zqs (c2) ?_);simp(disch:=omega)only[go_sem,Z0,↓reduceIte,reduceCtorEq,Z2,Zh,Z1,Zs,ZJ,Zf,Za,zlb,List.drop_zero])|((refine zqm _ rfl (fun f=>?_) (fun f=>?_))<;>(first|(cases f;done)|((try simp only[decide_eq_false_iff_not]at f);try omega)))|refine zqa ?_|refine zqv ?_|refine zqy ?_|(refine d _ ?_;clear d K))
    (refine zqL (fun B c=>∃(k:_) (L:List T) (E:Bool),B=r.length-k/\c.t 5=.ptr 2 0/\c.t 33=.rsl false 2 (r.map zb9)/\c.t 34=.int .i64 r.length/\c.t 35=.int .i64 k/\c.H 2=some (.box 25 [.rsl E 8 (L.map z0o)])/\(k<=r.length)/\(L=(r.take k).foldl z2z (z24 u s))/\(3<=c.nx)) ?_ ?_);rintro B c ⟨k,L,E,rfl,t5,a4,F,G,I,d0,n,d1⟩;rotate_left
    ·(refine⟨_,0,z24 u s,true,rfl,?_⟩);simp(disch:=omega)only[go_sem,Z0,Z1,true_and,and_true,Z5,Z3,Z7,c7];exact⟨rfl,rfl,rfl⟩
    have a2:zbj L<=1210000:=by rw[n];exact z9q _ _ (z9p c3)
    by_cases hk:k<r.length
    ·obtain⟨sk,a3⟩:∃sk,sk=r[k]'hk:=⟨_,rfl⟩
     have c6:(z2z L sk).length<=1210000:=Zt (z7y _) (Zt (zbk _ _) a2);have c4:L.length<=1210000:=Zt (z7y _) a2;have a9:∀x∈L,x∈z0c u:=by rw[n];exact zct _ _ zbl
     repeat'(first|refine zqj ?_|((refine zqh fun K d=>?_);simp(disch:=omega)only[go_sem,Z0,↓reduceIte,reduceCtorEq,Z2,Z1,t5,a4,F,G,I,<-a3])|(refine zqd _ rfl ?_ ?_<;>intro f<;>(((try simp only[z05]at f);try omega)))|refine zqa ?_|refine zqb ?_|(refine d _ ?_;clear d K))
     (refine zqL (fun B c=>∃(i:_) (a:Nat) (m:Nat),B=L.length-i/\c.t 5=.ptr 2 0/\c.t 33=.rsl false 2 (r.map zb9)/\c.t 34=.int .i64 r.length/\c.t 35=.int .i64 k/\c.t 7=.ptr a 0/\c.t 8=.osl m ((L.take i).flatMap (fun x=>x.kids.filter (atB sk))).length/\c.t 39=.rsl E 8 (L.map z0o)/\c.t 40=.int .i64 L.length/\c.t 41=.int .i64 i/\c.H 2=some (.box 25 [.rsl E 8 (L.map z0o)])/\c.H (a)=some (.box 109 (z8x sk))/\c.H (m)=some (.row 27 ((L.take i).flatMap (fun x=>x.kids.filter (atB sk))).length (((L.take i).flatMap (fun x=>x.kids.filter (atB sk))).flatMap z08))/\(i<=L.length)/\(2<a)/\(2<m)/\(¬a=m)/\(a<c.nx)/\(m<c.nx)) ?_ ?_);rintro B c ⟨i,a,m,rfl,v5,a5,a6,J,v7,v8,a7,M,O,Q,c0,v,d2,d3,d4,d5,d6,d7⟩;rotate_left
     ·(refine⟨_,0,c.nx,c.nx+1,rfl,?_⟩);simp(disch:=omega)only[go_sem,Z0,t5,a4,F,G,I,true_and,Z7,Zd,z8x];exact⟨by omega,by omega,by omega⟩
     have a1:(2==m)=false:=by simp;omega
     have b6:(m==2)=false:=by simp;omega
     have b0:(a==m)=false:=by simp;omega
     by_cases hi:i<L.length
     ·have c8:L[i].kids.length<=1000000:=(z79 (z6m u hs _ (a9 _ (Z6 hi)))).1
      repeat'(first|((refine zqh fun K d=>?_);simp(disch:=omega)only[go_sem,Z0,↓reduceIte,reduceCtorEq,Z2,Z1,a7,M,O,z0l])|(refine zqd _ rfl ?_ ?_<;>intro f<;>(((try simp only[z05]at f);try omega)))|refine zqa ?_|refine zqi ?_|refine zqb ?_|(refine d _ ?_;clear d K))
      (refine zqL (fun B c=>∃(j:_) (b:Nat),B=L[i].kids.length-j/\c.t 5=.ptr 2 0/\c.t 33=.rsl false 2 (r.map zb9)/\c.t 34=.int .i64 r.length/\c.t 35=.int .i64 k/\c.t 7=.ptr a 0/\c.t 8=.osl m ((L.take i).flatMap (fun x=>x.kids.filter (atB sk))++(L[i].kids.take j).filter (atB sk)).length/\c.t 39=.rsl E 8 (L.map z0o)/\c.t 40=.int .i64 L.length/\c.t 41=.int .i64 i/\c.t 46=z0l L[i].kids/\c.t 47=.int .i64 L[i].kids.length/\c.t 48=.int .i64 j/\c.H 2=some (.box 25 [.rsl E 8 (L.map z0o)])/\c.H (a)=some (.box 109 (z8x sk))/\c.H (m)=some (.row 27 ((L.take i).flatMap (fun x=>x.kids.filter (atB sk))++(L[i].kids.take j).filter (atB sk)).length (((L.take i).flatMap (fun x=>x.kids.filter (atB sk))++(L[i].kids.take j).filter (atB sk)).flatMap z08))/\(j<=L[i].kids.length)/\(2<a)/\(2<m)/\(¬a=m)/\(a<c.nx)/\(m<c.nx)/\(b=0)) ?_ ?_);rintro B c ⟨j,b,rfl,w5,R,U,W,w7,w8,X,Y,w,Z,y,z,a0,A,o,d8,d9,e0,e1,e2,e3,e4⟩;rotate_left
      ·(refine⟨_,0,0,rfl,?_⟩);simp(disch:=omega)only[go_sem,Z0,v5,a5,a6,J,v7,v8,a7,M,O,Q,c0,v,true_and,and_true,and_self,Z7,Ze,z0l,Y2,Zz];exact⟨by omega,by omega,by omega⟩
      have b9:=zf3 (s:=sk) hi j;rw[Z9]at b9
      by_cases hj:j<L[i].kids.length
      ·have c5:=zl1 L[i].kids[j] sk;have q:=Z4 hj
       repeat'(first|((first|refine zqh fun K d=>?_|refine zqr fun K d=>?_|refine zqs (c5) ?_);simp(disch:=omega)only[go_sem,Z0,↓reduceIte,reduceCtorEq,Z2,Zh,Z1,w7,w8,Z,y,z,A,o,z0l,z8x])|((first|refine zqd _ rfl (fun f=>?_) (fun f=>?_)|refine zqm _ rfl (fun f=>?_) (fun f=>?_))<;>(((try simp only[z05]at f);try omega)))|refine zqa ?_|refine zqb ?_|refine zqk ?_|refine zqv ?_|refine zqy ?_|(refine d _ ?_;clear d K))
       ·have C:(L[i].kids.take (j+1)).filter (atB sk)=(L[i].kids.take j).filter (atB sk)++[L[i].kids[j]]:=by
         rw[q,Zn,Zq,if_pos (by assumption)];rfl
        (refine⟨_,?_,j+1,0,rfl,?_⟩);rotate_left;simp(disch:=omega)only[go_sem,Z0,w5,R,U,W,w7,w8,X,Y,w,Z,y,z,a0,A,o,true_and,and_true,and_self,Z5,Z3,Zb,Zc,Zd,Ze,C,a1,b0,Z9,Za,ZG,ZK,ZD];rotate_left
        ·omega
        ·repeat'(omega)
       ·have C:(L[i].kids.take (j+1)).filter (atB sk)=(L[i].kids.take j).filter (atB sk):=by
         rw[q,Zn,Zq,if_neg (by rw[‹atB sk L[i].kids[j]=false›];simp),Zz,Ze]
        (refine⟨_,?_,j+1,0,rfl,?_⟩);rotate_left;simp(disch:=omega)only[go_sem,Z0,w5,R,U,W,w7,w8,X,Y,w,Z,y,z,a0,A,o,true_and,and_true,and_self,Z5,Z3,Zb,C];rotate_left
        ·omega
        ·repeat'(omega)
      ·repeat'(first|((first|refine zqh fun K d=>?_|refine zqr fun K d=>?_);simp(disch:=omega)only[go_sem,Z0,↓reduceIte,w,y,z])|(refine zqd _ rfl ?_ ?_<;>intro f<;>(((try simp only[z05]at f);try omega)))|refine zqc ?_|refine zqv ?_|refine zqy ?_|refine zqz ?_|refine zqp ?_|(refine d _ ?_;clear d K))
       have b4:L[i].kids.take j=L[i].kids:=Zl (by omega);have q:(L.take (i+1)).flatMap (fun x=>x.kids.filter (atB sk))=(L.take i).flatMap (fun x=>x.kids.filter (atB sk))++L[i].kids.filter (atB sk):=by
        rw[Z4 hi,Zb,Zc,Zd,Ze]
       rw[b4,<-q]at w8 o;(refine⟨_,?_,i+1,a,m,rfl,?_⟩);rotate_left;simp(disch:=omega)only[go_sem,Z0,w5,R,U,W,w7,w8,X,Y,w,a0,A,o,true_and,Z5,Z3];rotate_left
       ·omega
       ·repeat'(omega)
     ·skip
      repeat'(first|((refine z09 (N:=23) rfl fun K d=>?_);simp(disch:=omega)only[go_sem,↓reduceIte,M,O])|(refine zqd _ rfl ?_ ?_<;>intro f<;>(((try simp only[z05]at f);try omega)))|refine zqc ?_|refine zqv ?_|refine zqz ?_|refine zqp ?_|(refine d _ ?_;clear d K))
      have b3:L.take i=L:=Zl (by omega);have b8:(r.take (k+1)).foldl z2z (z24 u s)=z2z L sk:=by
       rw[n,Z4 (by omega),ZB,a3];rfl
      rw[b3]at v8 v;have b7:L.flatMap (fun x=>x.kids.filter (atB sk))=z2z L sk:=rfl;rw[b7]at v8 v;have g1:z23 true 8 (z2z L sk).length ((z2z L sk).flatMap z08)=(z2z L sk).map z0o:=z5a _ _ rfl;refine zqr fun K d=>?_;simp(disch:=omega)only[go_sem,Z0,↓reduceIte,Z1,Zs,v5,v8,Q];refine d _ ?_;clear d K;refine zqy (zbr _ (zae (P:=prog) (id:=m) (e:=27) (k:=(z2z L sk).length) (cs:=(z2z L sk).flatMap z08) (by(simp(disch:=omega)only[go_sem,v,b6])) (by decide+kernel) (z6c _)) ?_)
      repeat'(first|((refine zqr fun K d=>?_);simp(disch:=omega)only[go_sem,Z0,↓reduceIte,J,g1])|(refine d _ ?_;clear d K))
      (refine⟨_,?_,k+1,z2z L sk,false,rfl,?_⟩);rotate_left;simp(disch:=omega)only[go_sem,Z0,v5,a5,a6,J,Q,true_and,Z5,Z3,Zf,Zk,g1,a1];rotate_left
      ·omega
      ·exact⟨by omega,b8.symm,by omega⟩
    ·skip
     repeat'(first|((refine zqh fun K d=>?_);simp(disch:=omega)only[go_sem,Z0,↓reduceIte,Z2,t5,F,G,I])|(refine zqd _ rfl ?_ ?_<;>intro f<;>(((try simp only[z05]at f);try omega)))|refine zqc ?_|refine zqn ?_|refine zqv ?_|refine zqz ?_|refine zqp ?_|refine zqU ?_|(refine d _ ?_;clear d K))
     have b5:k=r.length:=by omega
     subst b5;rw[Zg]at n;rw[goT,<-n];cases E with
     |false=>exact z06 (z1g L) (XX _)
     |true=>exact z06 (z1g L) Le.rsl
   ·have b2:z24 u s=(z0c u).filter (atB s):=if_neg hb;rw[ZA]at hb;rw[hb]at c2;refine z33 fun K d=>?_;simp(disch:=omega)only[go_sem,Z2];refine d _ _ (zpx (b:=2) (e:=25) 27 (by(simp(disch:=omega)only[go_sem,Z0]))) ?_;clear d K
    repeat'(first|((first|refine z09 (N:=4) rfl fun K d=>?_|refine zqs (c2) ?_);simp(disch:=omega)only[go_sem,Z0,↓reduceIte,reduceCtorEq,Z2,Zf,Za,zlb])|((refine zqm _ rfl (fun f=>?_) (fun f=>?_))<;>(first|(cases f;done)|((try simp only[decide_eq_false_iff_not]at f);try omega)))|refine zqa ?_|(refine d _ ?_;clear d K))
    repeat'(((refine zqr fun K d=>?_);simp(disch:=omega)only[go_sem,Z0,↓reduceIte,Z2,Z1]))
    have h:=eff_each (g:=130) (cap:=[.ptr 1 0,.ptr 2 0]) (fun x l=>addF s x l) (low_F u (s::r)) List.length (z0c u).length (fun x l=>by unfold addF;split<;>simp) u (zbx u hs) (fun x _ l hl=>eff_found1 u x s r l (by omega)) [] (by simp);rw[zsw,Zo,<-b2]at h;refine z8l h (ZH _) (fun j hj=>?_) fun H1 a8 _=>?_
    ·match j,hj with
     |0,_=>rfl
     |1,_=>rfl
     |2,_=>rfl
     |3,_=>rfl
    have h1:H1 1=some (.box 37 [z0k (s::r)]):=a8 1 (by omega);have h2:H1 2=some (.box 25 [.osl 3 (z24 u s).length]):=a8 2 (by omega);have h3:H1 3=some (.row 27 (z24 u s).length ((z24 u s).flatMap z08)):=a8 3 (by omega);clear h a8;simp(disch:=omega)only[go_sem];refine d _ ?_;clear d K
    repeat'(first|refine zqj ?_|refine zqv ?_|refine zqy ?_)
    refine z33 fun K d=>?_;(try(simp(disch:=omega)only[go_sem,Z0,↓reduceIte,reduceCtorEq,Z2,ZJ,h1,z0k,Zf,Za]));repeat' skip
    refine d _ _ (zae (P:=prog) (id:=3) (e:=27) (k:=(z24 u s).length) (cs:=(z24 u s).flatMap z08) (by(simp(disch:=omega)only[go_sem,h3])) (by decide+kernel) (z6c _)) ?_;clear d K;have g0:z23 true 8 (z24 u s).length ((z24 u s).flatMap z08)=(z24 u s).map z0o:=z5a _ _ rfl
    repeat'(refine zqa ?_)
    (refine zqL (fun B c=>∃(k:_) (L:List T) (E:Bool),B=r.length-k/\c.t 5=.ptr 2 0/\c.t 33=.rsl false 2 (r.map zb9)/\c.t 34=.int .i64 r.length/\c.t 35=.int .i64 k/\c.H 2=some (.box 25 [.rsl E 8 (L.map z0o)])/\(k<=r.length)/\(L=(r.take k).foldl z2z (z24 u s))/\(3<=c.nx)) ?_ ?_);rintro B c ⟨k,L,E,rfl,t5,a4,F,G,I,d0,n,d1⟩;rotate_left
    ·(refine⟨_,0,z24 u s,false,rfl,?_⟩);simp(disch:=omega)only[go_sem,Z0,Z1,true_and,and_true,Z5,Z3,Z7,Zk,g0,h2,Option.map_some];exact⟨rfl,rfl,rfl⟩
    have a2:zbj L<=1210000:=by rw[n];exact z9q _ _ (z9p c3)
    by_cases hk:k<r.length
    ·obtain⟨sk,a3⟩:∃sk,sk=r[k]'hk:=⟨_,rfl⟩
     have c6:(z2z L sk).length<=1210000:=Zt (z7y _) (Zt (zbk _ _) a2);have c4:L.length<=1210000:=Zt (z7y _) a2;have a9:∀x∈L,x∈z0c u:=by rw[n];exact zct _ _ zbl
     repeat'(first|refine zqj ?_|((refine zqh fun K d=>?_);simp(disch:=omega)only[go_sem,Z0,↓reduceIte,reduceCtorEq,Z2,Z1,t5,a4,F,G,I,<-a3])|(refine zqd _ rfl ?_ ?_<;>intro f<;>(((try simp only[z05]at f);try omega)))|refine zqa ?_|refine zqb ?_|(refine d _ ?_;clear d K))
     (refine zqL (fun B c=>∃(i:_) (a:Nat) (m:Nat),B=L.length-i/\c.t 5=.ptr 2 0/\c.t 33=.rsl false 2 (r.map zb9)/\c.t 34=.int .i64 r.length/\c.t 35=.int .i64 k/\c.t 7=.ptr a 0/\c.t 8=.osl m ((L.take i).flatMap (fun x=>x.kids.filter (atB sk))).length/\c.t 39=.rsl E 8 (L.map z0o)/\c.t 40=.int .i64 L.length/\c.t 41=.int .i64 i/\c.H 2=some (.box 25 [.rsl E 8 (L.map z0o)])/\c.H (a)=some (.box 109 (z8x sk))/\c.H (m)=some (.row 27 ((L.take i).flatMap (fun x=>x.kids.filter (atB sk))).length (((L.take i).flatMap (fun x=>x.kids.filter (atB sk))).flatMap z08))/\(i<=L.length)/\(2<a)/\(2<m)/\(¬a=m)/\(a<c.nx)/\(m<c.nx)) ?_ ?_);rintro B c ⟨i,a,m,rfl,v5,a5,a6,J,v7,v8,a7,M,O,Q,c0,v,d2,d3,d4,d5,d6,d7⟩;rotate_left
     ·(refine⟨_,0,c.nx,c.nx+1,rfl,?_⟩);simp(disch:=omega)only[go_sem,Z0,t5,a4,F,G,I,true_and,Z7,Zd,z8x];exact⟨by omega,by omega,by omega⟩
     have a1:(2==m)=false:=by simp;omega
     have b6:(m==2)=false:=by simp;omega
     have b0:(a==m)=false:=by simp;omega
     by_cases hi:i<L.length
     ·have c8:L[i].kids.length<=1000000:=(z79 (z6m u hs _ (a9 _ (Z6 hi)))).1
      repeat'(first|((refine zqh fun K d=>?_);simp(disch:=omega)only[go_sem,Z0,↓reduceIte,reduceCtorEq,Z2,Z1,a7,M,O,z0l])|(refine zqd _ rfl ?_ ?_<;>intro f<;>(((try simp only[z05]at f);try omega)))|refine zqa ?_|refine zqi ?_|refine zqb ?_|(refine d _ ?_;clear d K))
      (refine zqL (fun B c=>∃(j:_) (b:Nat),B=L[i].kids.length-j/\c.t 5=.ptr 2 0/\c.t 33=.rsl false 2 (r.map zb9)/\c.t 34=.int .i64 r.length/\c.t 35=.int .i64 k/\c.t 7=.ptr a 0/\c.t 8=.osl m ((L.take i).flatMap (fun x=>x.kids.filter (atB sk))++(L[i].kids.take j).filter (atB sk)).length/\c.t 39=.rsl E 8 (L.map z0o)/\c.t 40=.int .i64 L.length/\c.t 41=.int .i64 i/\c.t 46=z0l L[i].kids/\c.t 47=.int .i64 L[i].kids.length/\c.t 48=.int .i64 j/\c.H 2=some (.box 25 [.rsl E 8 (L.map z0o)])/\c.H (a)=some (.box 109 (z8x sk))/\c.H (m)=some (.row 27 ((L.take i).flatMap (fun x=>x.kids.filter (atB sk))++(L[i].kids.take j).filter (atB sk)).length (((L.take i).flatMap (fun x=>x.kids.filter (atB sk))++(L[i].kids.take j).filter (atB sk)).flatMap z08))/\(j<=L[i].kids.length)/\(2<a)/\(2<m)/\(¬a=m)/\(a<c.nx)/\(m<c.nx)/\(b=0)) ?_ ?_);rintro B c ⟨j,b,rfl,w5,R,U,W,w7,w8,X,Y,w,Z,y,z,a0,A,o,d8,d9,e0,e1,e2,e3,e4⟩;rotate_left
      ·(refine⟨_,0,0,rfl,?_⟩);simp(disch:=omega)only[go_sem,Z0,v5,a5,a6,J,v7,v8,a7,M,O,Q,c0,v,true_and,and_true,and_self,Z7,Ze,z0l,Y2,Zz];exact⟨by omega,by omega,by omega⟩
      have b9:=zf3 (s:=sk) hi j;rw[Z9]at b9
      by_cases hj:j<L[i].kids.length
      ·have c5:=zl1 L[i].kids[j] sk;have q:=Z4 hj
       repeat'(first|((first|refine zqh fun K d=>?_|refine zqr fun K d=>?_|refine zqs (c5) ?_);simp(disch:=omega)only[go_sem,Z0,↓reduceIte,reduceCtorEq,Z2,Zh,Z1,w7,w8,Z,y,z,A,o,z0l,z8x])|((first|refine zqd _ rfl (fun f=>?_) (fun f=>?_)|refine zqm _ rfl (fun f=>?_) (fun f=>?_))<;>(((try simp only[z05]at f);try omega)))|refine zqa ?_|refine zqb ?_|refine zqk ?_|refine zqv ?_|refine zqy ?_|(refine d _ ?_;clear d K))
       ·have C:(L[i].kids.take (j+1)).filter (atB sk)=(L[i].kids.take j).filter (atB sk)++[L[i].kids[j]]:=by
         rw[q,Zn,Zq,if_pos (by assumption)];rfl
        (refine⟨_,?_,j+1,0,rfl,?_⟩);rotate_left;simp(disch:=omega)only[go_sem,Z0,w5,R,U,W,w7,w8,X,Y,w,Z,y,z,a0,A,o,true_and,and_true,and_self,Z5,Z3,Zb,Zc,Zd,Ze,C,a1,b0,Z9,Za,ZG,ZK,ZD];rotate_left
        ·omega
        ·repeat'(omega)
       ·have C:(L[i].kids.take (j+1)).filter (atB sk)=(L[i].kids.take j).filter (atB sk):=by
         rw[q,Zn,Zq,if_neg (by rw[‹atB sk L[i].kids[j]=false›];simp),Zz,Ze]
        (refine⟨_,?_,j+1,0,rfl,?_⟩);rotate_left;simp(disch:=omega)only[go_sem,Z0,w5,R,U,W,w7,w8,X,Y,w,Z,y,z,a0,A,o,true_and,and_true,and_self,Z5,Z3,Zb,C];rotate_left
        ·omega
        ·repeat'(omega)
      ·repeat'(first|((first|refine zqh fun K d=>?_|refine zqr fun K d=>?_);simp(disch:=omega)only[go_sem,Z0,↓reduceIte,w,y,z])|(refine zqd _ rfl ?_ ?_<;>intro f<;>(((try simp only[z05]at f);try omega)))|refine zqc ?_|refine zqv ?_|refine zqy ?_|refine zqz ?_|refine zqp ?_|(refine d _ ?_;clear d K))
       have b4:L[i].kids.take j=L[i].kids:=Zl (by omega);have q:(L.take (i+1)).flatMap (fun x=>x.kids.filter (atB sk))=(L.take i).flatMap (fun x=>x.kids.filter (atB sk))++L[i].kids.filter (atB sk):=by
        rw[Z4 hi,Zb,Zc,Zd,Ze]
       rw[b4,<-q]at w8 o;(refine⟨_,?_,i+1,a,m,rfl,?_⟩);rotate_left;simp(disch:=omega)only[go_sem,Z0,w5,R,U,W,w7,w8,X,Y,w,a0,A,o,true_and,Z5,Z3];rotate_left
       ·omega
       ·repeat'(omega)
     ·skip
      repeat'(first|((refine z09 (N:=23) rfl fun K d=>?_);simp(disch:=omega)only[go_sem,↓reduceIte,M,O])|(refine zqd _ rfl ?_ ?_<;>intro f<;>(((try simp only[z05]at f);try omega)))|refine zqc ?_|refine zqv ?_|refine zqz ?_|refine zqp ?_|(refine d _ ?_;clear d K))
      have b3:L.take i=L:=Zl (by omega);have b8:(r.take (k+1)).foldl z2z (z24 u s)=z2z L sk:=by
       rw[n,Z4 (by omega),ZB,a3];rfl
      rw[b3]at v8 v;have b7:L.flatMap (fun x=>x.kids.filter (atB sk))=z2z L sk:=rfl;rw[b7]at v8 v;have g1:z23 true 8 (z2z L sk).length ((z2z L sk).flatMap z08)=(z2z L sk).map z0o:=z5a _ _ rfl;refine zqr fun K d=>?_;simp(disch:=omega)only[go_sem,Z0,↓reduceIte,Z1,Zs,v5,v8,Q];refine d _ ?_;clear d K;refine zqy (zbr _ (zae (P:=prog) (id:=m) (e:=27) (k:=(z2z L sk).length) (cs:=(z2z L sk).flatMap z08) (by(simp(disch:=omega)only[go_sem,v,b6])) (by decide+kernel) (z6c _)) ?_)
      repeat'(first|((refine zqr fun K d=>?_);simp(disch:=omega)only[go_sem,Z0,↓reduceIte,J,g1])|(refine d _ ?_;clear d K))
      (refine⟨_,?_,k+1,z2z L sk,false,rfl,?_⟩);rotate_left;simp(disch:=omega)only[go_sem,Z0,v5,a5,a6,J,Q,true_and,Z5,Z3,Zf,Zk,g1,a1];rotate_left
      ·omega
      ·exact⟨by omega,b8.symm,by omega⟩
    ·skip
     repeat'(first|((refine zqh fun K d=>?_);simp(disch:=omega)only[go_sem,Z0,↓reduceIte,Z2,t5,F,G,I])|(refine zqd _ rfl ?_ ?_<;>intro f<;>(((try simp only[z05]at f);try omega)))|refine zqc ?_|refine zqn ?_|refine zqv ?_|refine zqz ?_|refine zqp ?_|refine zqU ?_|(refine d _ ?_;clear d K))
     have b5:k=r.length:=by omega
     subst b5;rw[Zg]at n;rw[goT,<-n];cases E with
     |false=>exact z06 (z1g L) (XX _)
     |true=>exact z06 (z1g L) Le.rsl

 ·rw[ZA]at hv;rw[hv]at c1;unfold z3t;rw[if_neg (by rw[hv];simp)]
  repeat'(first|refine zqj ?_|((first|refine zqh fun K d=>?_|refine zqs (c1) ?_);simp(disch:=omega)only[go_sem,Z0,↓reduceIte,Z2,z0k])|(refine zqd _ rfl ?_ ?_<;>intro f<;>(first|(cases f;done)|((try omega))))|refine zqg ?_|refine zqU ?_|(refine d _ ?_;clear d K))
  exact z06 rfl (Le.nil 8)
theorem zuo(u:T)(w:szB u=true)(f:cntT u<=1100)(p:List Stp)(v:p.length<=maxLen)(j:∀s∈p,s.label.size<=maxLen):PC prog 18 [z0o u,z0k p] (z2k (z6g u p)):=by
 have q:=pc_found u w f p v j;have z:=zpb (u:=u) (p:=p) f;refine z14 2 (by simp only[pureD.pureL,z02,z1u,Z8]) (z68 _) (zqzj [5] func18 rfl (by decide+kernel) rfl ?_)
 repeat'(first|refine zqj ?_|((first|refine zqh fun K b=>?_|refine zqs (q) ?_);simp(disch:=omega)only[go_sem,Z0,↓reduceIte,Z2,Z1])|refine zqa ?_|(refine b _ ?_;clear b K))
 (refine zqL (fun o e=>∃(k:_),o=(z3t u p).length-k/\e.t 5=.osl 1 k/\e.t 10=z0l (z3t u p)/\e.t 11=.int .i64 (z3t u p).length/\e.t 12=.int .i64 k/\e.H 1=some (.row 23 k ((((z3t u p).take k).map T.id).flatMap z0a))/\(k<=(z3t u p).length)/\(2<=e.nx)) ?_ ?_);rintro o e ⟨k,rfl,n,g,c,d,a,x,y⟩;rotate_left
 ·(refine⟨_,0,rfl,?_⟩);simp(disch:=omega)only[go_sem,Z0,Z1,and_self,Z7,Zd,Zk,z0l]
  try simp
 by_cases r:k<(z3t u p).length
 ·have m:=Z4 r
  repeat'(first|((first|refine zqh fun K b=>?_|refine zqr fun K b=>?_);simp(disch:=omega)only[go_sem,Z0,↓reduceIte,reduceCtorEq,Z2,Zh,Z1,n,g,c,d,a,z0l])|(refine zqd _ rfl ?_ ?_<;>intro f<;>(((try simp only[z05]at f);try omega)))|refine zqa ?_|refine zqb ?_|refine zqv ?_|refine zqy ?_|(refine b _ ?_;clear b K))
  (refine⟨_,?_,k+1,rfl,?_⟩);rotate_left;simp(disch:=omega)only[go_sem,Z0,Z1,n,g,c,d,a,true_and,Z5,Z3,Zb,Zc,Zd,Zy,Zf,Zk,Ze,m,z0a];rotate_left
  ·omega
  ·omega
 ·repeat'(first|((refine zqh fun K b=>?_);simp(disch:=omega)only[go_sem,Z0,↓reduceIte,n,c,d])|(refine zqd _ rfl ?_ ?_<;>intro f<;>(((try simp only[z05]at f);try omega)))|refine zqc ?_|refine zqn ?_|refine zqv ?_|refine zqz ?_|refine zqp ?_|refine zqU ?_|(refine b _ ?_;clear b K))
  have h:k=(z3t u p).length:=by omega
  subst h;rw[Zg]at a;have i:(z3t u p).length=((z3t u p).map T.id).length:=by simp
  rw[i]at a⊢;exact z3j (z2b (l:=(z3t u p).map T.id) 0 a z25 ze7 (fun _=>rfl) (fun _=>rfl))
theorem zat(u:T)(l:szB u=true)(a:cntT u<=1100)(p:List Stp)(j:p.length<=maxLen)(d:∀s∈p,s.label.size<=maxLen):PC prog 14 [z0o u,z0k p] (.tup [z0z (z1e u p).1,.int .i64 (z1e u p).2]):=by
 have c:=zuo u l a p j d;refine z14 3 (by simp only[pureD.pureL,z02,z1u,Z8]) rfl (zqzj [] func14 rfl (by decide+kernel) rfl ?_);rw[show Tryz.f14.results.toList=[.cell 4 23,.tmp 5] from rfl];have m:ZO 0=0:=rfl;rcases ZS (z6g u p).length 1 with h|h|h
 ·have e:z6g u p=[]:=Y9 (by omega);rw[one_nil e];rw[e]at c
  repeat'(first|refine zqj ?_|((first|refine zqh fun K b=>?_|refine zqs (c) ?_);simp(disch:=omega)only[go_sem,Z0,↓reduceIte,Z2,Z1,z2k])|((refine zqm _ rfl (fun a=>?_) (fun a=>?_))<;>(first|(cases a;done)|((try simp only[decide_eq_true_eq]at a);try omega)))|refine zqa ?_|refine zqn ?_|refine zqx ?_|refine zqzb ?_|refine zqu (by(simp(disch:=omega)only[go_sem,Z0,↓reduceIte,Z2,Z1]);rfl) rfl ?_|(refine b _ ?_;clear b K))
  exact z06 rfl (XX _)
 ·rw[one_one h];obtain⟨i,f⟩:∃i,z6g u p=[i]:=Yd.1 h;have g:(z6g u p)[0]'(by omega)=i:=by simp only[f,ZI]
  rw[g];rw[f]at c
  repeat'(first|refine zqj ?_|((first|refine zqh fun K b=>?_|refine zqs (c) ?_);simp(disch:=omega)only[go_sem,Z0,↓reduceIte,reduceCtorEq,Z2,Z1,z2k,zlb,Zf,Zk])|((refine zqm _ rfl (fun a=>?_) (fun a=>?_))<;>(first|(cases a;done)|((try simp only[z05]at a);try omega)))|refine zqa ?_|refine zqn ?_|refine zqx ?_|refine zqzb ?_|refine zqu (by(simp(disch:=omega)only[go_sem,Z0,↓reduceIte,Z2,Z1]);rfl) rfl ?_|(refine b _ ?_;clear b K))
  exact z06 rfl (XX _)
 ·rw[one_two h];have k:¬(z6g u p).length=0:=by omega
  repeat'(first|refine zqj ?_|((first|refine zqh fun K b=>?_|refine zqs (c) ?_);simp(disch:=omega)only[go_sem,Z0,↓reduceIte,Z2,Z1,z2k])|((refine zqm _ rfl (fun a=>?_) (fun a=>?_))<;>(((try simp only[z05]at a);try omega)))|refine zqa ?_|refine zqk ?_|refine zqn ?_|refine zqv ?_|refine zqy ?_|refine zqu (by(simp(disch:=omega)only[go_sem,Z0,↓reduceIte,Z2,Z1]);rfl) rfl ?_|(refine b _ ?_;clear b K))
  exact z06 rfl (XX _)
def whB(w:Int):Bool:=decide (0<=w/\w<=3)
theorem zmn(w:Int):PC prog 94 [.int .i64 w] (.bool (whB w)):=by
 refine z14 1 rfl rfl (zqzj [] func94 rfl (by decide+kernel) rfl ?_)
 repeat'(first|((refine zqh fun K d=>?_);simp(disch:=omega)only[go_sem,Z0,↓reduceIte])|refine nxt ?_|refine zqU ?_|(refine d _ ?_;clear d K)|(refine zqf (fun c=>?_) (fun c=>?_)<;>(have a:=c;try simp only[z05]at a)<;>((first|have b:=eq_false a|have b:=eq_true a);simp(disch:=omega)only[go_sem,Z0,↓reduceIte,b];clear c b;try omega)))
 all_goals first|exact z01 (decide_eq_true (by omega)).symm|exact z01 (decide_eq_false (by omega)).symm|exact z01 (decide_eq_decide.2 (by omega))
def z8u(s:Idv×Int):List D:=z0a s.1++[.int .i64 s.2]
def zkg(s:Idv×Int):D:=.agg (z8u s)
def zb8(r:(Idv×Int)×Int):D:=.tup [zkg r.1,.int .i64 r.2]
theorem zs0(u:T)(e:szB u=true)(i:depT u<=1000000)(id:Idv)(k:Int)(j:0<=k/\k<=1) :
  PC prog 258 [z0o u,z0z id,.int .i64 k] (zb8 (if (z3c id u).2.2=true then (((z3c id u).1,(z3c id u).2.1+k),0) else ((Idv.zero,0),9))):=by
 have b:=z9t u (z7o u e) (by omega) id;refine z14 3 (by simp only[pureD.pureL,z02,pureD,Z8];rfl) (by split<;>rfl) (zqzj [] func258 rfl (by decide+kernel) rfl ?_);rw[show Tryz.f258.results.toList=[.cell 6 141,.tmp 7] from rfl];have g : -1<=(z3c id u).2.1/\(z3c id u).2.1<=1000000:=by
  unfold z3c;simp only;split
  ·exact⟨by simp only;omega,by simp only;omega⟩
  ·rename_i h;have f:=zah id u _ (Z6 (l:=z27 id u) (n:=(z27 id u).length-2) (by omega));have m:=(z79 (z6m u e _ f)).1;simp only;split<;>omega
 cases d:(z3c id u).2.2 with
 |true =>
  rw[d]at b
  repeat'(first|refine nxt ?_|((first|refine zqh fun K a=>?_|refine zqs (b) ?_);simp(disch:=omega)only[go_sem,Z0,↓reduceIte,Z2,Z1])|(refine zqd _ rfl ?_ ?_<;>intro c<;>(first|(cases c;done)|((try omega))))|refine zqu (by(simp(disch:=omega)only[go_sem,Z0,↓reduceIte,Z2,Z1]);rfl) rfl ?_|(refine a _ ?_;clear a K))
  exact z06 rfl (XX _)
 |false =>
  rw[d]at b
  repeat'(first|refine nxt ?_|((first|refine zqh fun K a=>?_|refine zqs (b) ?_);simp(disch:=omega)only[go_sem,Z0,↓reduceIte,Z2,Z1])|(refine zqd _ rfl ?_ ?_<;>intro c<;>(first|(cases c;done)|((try omega))))|refine zqu (by(simp(disch:=omega)only[go_sem,Z0,↓reduceIte,Z2,Z1]);rfl) rfl ?_|(refine a _ ?_;clear a K))
  exact z06 rfl (XX _)
theorem pc_into(u:T)(d:szB u=true)(e:depT u<=1000000)(id:Idv){g:FuncId}(n:Int)(c:PC prog g [.int .i64 ((z07 id u).1.kids.length:Nat)] (.int .i64 n)) :
  PC prog 253 [z0o u,z0z id,.fn g []] (zb8 ((id,n),0)):=by
 have b:=z8q u (z7o u d) (by omega) id;refine z14 3 (by simp only[pureD.pureL,z02,pureD,Z8];rfl) rfl (zqzj [3000019,5000021] func253 rfl (by decide+kernel) rfl ?_);rw[show Tryz.f253.results.toList=[.cell 6 141,.tmp 7] from rfl]
 repeat'(first|((first|refine zqh fun K a=>?_|refine zqe (by decide+kernel) fun K a=>?_|refine zqs (b) ?_|refine zqt (c) ?_);simp(disch:=omega)only[go_sem,Z0,Zi,↓reduceIte,reduceCtorEq,Z2,Z1,Zs,z0l])|refine nxt ?_|refine zqu (by(simp(disch:=omega)only[go_sem,Z0,↓reduceIte,Z2,Z1]);rfl) rfl ?_|(refine a _ ?_;clear a K))
 exact z06 rfl (XX _)
theorem pc_l11(n:Int):PC prog 254 [.int .i64 n] (.int .i64 0):=by
 refine z14 1 rfl rfl (zqzj [] func254 rfl (by decide+kernel) rfl ?_)
 repeat'(first|((refine zqh fun K a=>?_);simp(disch:=omega)only[go_sem])|refine nxt ?_|refine zqU ?_|(refine a _ ?_;clear a K))
 exact z1o rfl
theorem pc_l21(n:Int):PC prog 256 [.int .i64 n] (.int .i64 n):=by
 refine z14 1 rfl rfl (zqzj [] func256 rfl (by decide+kernel) rfl ?_)
 repeat'(first|((refine zqh fun K a=>?_);simp(disch:=omega)only[go_sem,Z0])|refine nxt ?_|refine zqU ?_|(refine a _ ?_;clear a K))
 exact z1o rfl
theorem pc_lead1(u:T)(d:szB u=true)(c:depT u<=1000000)(id:Idv):PC prog 252 [z0o u,z0z id] (zb8 (z6x u id 0)):=by
 have a:=pc_into u d c id 0 (pc_l11 _);refine z14 3 (by simp only[pureD.pureL,z02];rfl) rfl (zqzj [] func252 rfl (by decide+kernel) rfl ?_);rw[show Tryz.f252.results.toList=[.cell 4 141,.tmp 5] from rfl];unfold zb8 zkg at a
 repeat'(first|((first|refine zqh fun K b=>?_|refine zqs (a) ?_);simp(disch:=omega)only[go_sem,Z0,↓reduceIte,Z2,Z1,z0a,z8u,Zp,Zo])|refine nxt ?_|refine zqu (by(simp(disch:=omega)only[go_sem,Z0,↓reduceIte,Z2,Z1]);rfl) rfl ?_|(refine b _ ?_;clear b K))
 all_goals exact z06 rfl (XX _)
theorem pc_lead2(u:T)(d:szB u=true)(c:depT u<=1000000)(id:Idv):PC prog 255 [z0o u,z0z id] (zb8 (z6x u id 1)):=by
 have a:=pc_into u d c id _ (pc_l21 _);refine z14 3 (by simp only[pureD.pureL,z02];rfl) rfl (zqzj [] func255 rfl (by decide+kernel) rfl ?_);rw[show Tryz.f255.results.toList=[.cell 4 141,.tmp 5] from rfl];unfold zb8 zkg at a
 repeat'(first|((first|refine zqh fun K b=>?_|refine zqs (a) ?_);simp(disch:=omega)only[go_sem,Z0,↓reduceIte,Z2,Z1,z0a,z8u,Zp,Zo])|refine nxt ?_|refine zqu (by(simp(disch:=omega)only[go_sem,Z0,↓reduceIte,Z2,Z1]);rfl) rfl ?_|(refine b _ ?_;clear b K))
 all_goals exact z06 rfl (XX _)
theorem pc_lead3(u:T)(d:szB u=true)(c:depT u<=1000000)(id:Idv):PC prog 257 [z0o u,z0z id] (zb8 (z6x u id 2)):=by
 have a:=zs0 u d c id 1 (by decide);refine z14 3 (by simp only[pureD.pureL,z02];rfl) rfl (zqzj [] func257 rfl (by decide+kernel) rfl ?_);rw[show Tryz.f257.results.toList=[.cell 4 141,.tmp 5] from rfl];unfold zb8 zkg at a
 repeat'(first|((first|refine zqh fun K b=>?_|refine zqs (a) ?_);simp(disch:=omega)only[go_sem,Z0,↓reduceIte,Z2,Z1,z0a,z8u,Zp,Zo])|refine nxt ?_|refine zqu (by(simp(disch:=omega)only[go_sem,Z0,↓reduceIte,Z2,Z1]);rfl) rfl ?_|(refine b _ ?_;clear b K))
 all_goals exact z06 rfl (XX _)
theorem pc_lead4(u:T)(d:szB u=true)(c:depT u<=1000000)(id:Idv):PC prog 259 [z0o u,z0z id] (zb8 (z6x u id 3)):=by
 have a:=zs0 u d c id 0 (by decide);refine z14 3 (by simp only[pureD.pureL,z02];rfl) rfl (zqzj [] func259 rfl (by decide+kernel) rfl ?_);rw[show Tryz.f259.results.toList=[.cell 4 141,.tmp 5] from rfl];unfold zb8 zkg at a
 repeat'(first|((first|refine zqh fun K b=>?_|refine zqs (a) ?_);simp(disch:=omega)only[go_sem,Z0,↓reduceIte,Z2,Z1,z0a,z8u,Zp,Zo])|refine nxt ?_|refine zqu (by(simp(disch:=omega)only[go_sem,Z0,↓reduceIte,Z2,Z1]);rfl) rfl ?_|(refine b _ ?_;clear b K))
 all_goals exact z06 rfl (XX _)
theorem zx2:PC prog 164 [] (.agg [.fn 252 [],.fn 255 [],.fn 257 [],.fn 259 []]):=by
 refine z14 3 rfl rfl (zqzj [] func164 rfl (by decide+kernel) rfl ?_)
 repeat'(first|((refine zqh fun K a=>?_);simp(disch:=omega)only[go_sem,↓reduceIte,reduceCtorEq,Z2,Z1])|refine nxt ?_|refine zqu (by(simp(disch:=omega)only[go_sem,Z2]);rfl) rfl ?_|(refine a _ ?_;clear a K))
 exact z06 rfl (XX _)
end
section
open Abs Facts Tr
attribute [local irreducible] awp
set_option maxRecDepth 100000
theorem zz4(l:List Idv)(A:l.length<=1000000)(k:Idv):PC prog 260 [z2k l,z0z k] (.int .i64 (if z1r (fun x=>decide (k=x)) l<l.length then (z1r (fun x=>decide (k=x)) l:Int) else -1)):=by
 refine z14 1 (by simp only[pureD.pureL,z68];rfl) rfl (zqzj [] func260 rfl (by decide+kernel) rfl ?_)
 repeat'(first|refine nxt ?_|((refine zqh fun K a=>?_);simp(disch:=omega)only[go_sem,Z0,z2k])|(refine a _ ?_;clear a K))
 (refine zqL (fun p d=>∃(i:_),p=l.length-i/\d.t 0=z2k l/\d.t 3=.ptr 0 0/\d.t 7=.int .i64 l.length/\d.t 8=.int .i64 i/\d.H 0=some (.box 23 (z0a k))/\(i<=l.length)/\(∀j,(c:j<i)->(h:j<l.length)->decide (k=l[j])=false)) ?_ ?_);rintro p d ⟨i,rfl,q,r,s,u,g,y,b⟩;rotate_left
 ·(refine⟨_,0,rfl,?_⟩);simp(disch:=omega)only[go_sem,Z0,true_and,Z7,z2k,z0a];intro j c;omega
 repeat'(first|((first|refine zqh fun K a=>?_|refine zqe (by decide+kernel) fun K a=>?_|refine zqr fun K a=>?_);simp(disch:=omega)only[go_sem,Z0,↓reduceIte,reduceCtorEq,Z2,Z1,q,r,s,u,g,z2k,z0a])|((first|refine zqd _ rfl (fun m=>?_) (fun m=>?_)|refine zqm _ rfl (fun m=>?_) (fun m=>?_))<;>(((try simp only[z05]at m);try omega)))|refine nxt ?_|refine zqz ?_|refine zqU ?_|(refine a _ ?_;clear a K))
 ·refine z1o ?_;have o:=z2j (f:=fun x=>decide (k=x)) (l:=l) (k:=i) (by omega) (fun j c=>b j c (by omega)) (fun h=>decide_eq_true (by assumption));rw[o,if_pos (by omega)]
 ·(refine⟨_,?_,i+1,rfl,?_⟩);rotate_left;simp(disch:=omega)only[go_sem,Z0,q,r,s,u,g,true_and,Z5,Z3,z0a];rotate_left
  ·omega
  ·refine⟨by omega,fun j c h=>?_⟩
   by_cases e:j=i
   ·subst e;exact decide_eq_false (by assumption)
   ·exact b j (by omega) h
 ·refine z1o ?_;have v:i=l.length:=by omega
  subst v;have o:=z2j (f:=fun x=>decide (k=x)) (l:=l) (k:=l.length) (by omega) (fun j c=>b j c (by omega)) (fun h=>by omega);rw[o,if_neg (by omega)]
theorem zo6(l:List Idv)(c:l.length<=1000000)(k:Idv):PC prog 165 [z2k l,z0z k] (.bool (decide (k∈l))):=by
 have h:=zz4 l c k;refine z14 1 (by simp only[pureD.pureL,z68];rfl) rfl (zqzj [] func165 rfl (by decide+kernel) rfl ?_);have a:=z7e (fun x=>decide (k=x)) l;have d:l.any (fun x=>decide (k=x))=decide (k∈l):=by
  rw[ZX];simp
 repeat'(first|((first|refine zqh fun K b=>?_|refine zqs (h) ?_);simp(disch:=omega)only[go_sem,Z0,↓reduceIte,Z2,Z1])|refine nxt ?_|refine zqU ?_|(refine b _ ?_;clear b K))
 refine z01 ?_;rw[<-d,<-a]
 by_cases h:z1r (fun x=>decide (k=x)) l<l.length
 ·rw[if_pos h];simp[h]
 ·rw[if_neg h];simp[h]
def zd6(u:T)(p:List Stp)(w:Int):(Idv×Int)×Int :=
 if whB w=false then ((Idv.zero,0),1) else if (z1e u p).2=0 then z6x u (z1e u p).1 w else ((Idv.zero,0),(z1e u p).2)
def encDe(r:(Idv×Int)×Int):D:=.tup [z0z r.1.1,.int .i64 r.1.2,.int .i64 r.2]
theorem zws(u:T)(id:Idv)(w:Int):(z6x u id w).2=0 \/ z6x u id w=((Idv.zero,0),9):=by
 unfold z6x;split
 ·exact .inl rfl
 split
 ·exact .inl rfl
 split
 ·exact .inl rfl
 ·exact .inr rfl
def leadF(w:Int):FuncId:=if w=0 then 252 else if w=1 then 255 else if w=2 then 257 else 259
theorem pc_lead(u:T)(b:szB u=true)(a:depT u<=1000000)(id:Idv)(w:Int)(c:0<=w/\w<=3):PC prog (leadF w) [z0o u,z0z id] (zb8 (z6x u id w)):=by
 rcases wh4 c with rfl|rfl|rfl|rfl
 ·exact pc_lead1 u b a id
 ·exact pc_lead2 u b a id
 ·exact pc_lead3 u b a id
 ·exact pc_lead4 u b a id
theorem lead_ix(w:Int)(a:0<=w/\w<=3):([D.fn 252 [],.fn 255 [],.fn 257 [],.fn 259 []]:List D)[w.toNat]?=some (.fn (leadF w) []):=by
 rcases wh4 a with rfl|rfl|rfl|rfl<;>rfl
theorem zgj(u:T)(o:szB u=true)(b:cntT u<=1100)(q:depT u<=1000000)(p:List Stp)(t:p.length<=maxLen)(l:∀s∈p,s.label.size<=maxLen)(w:Int) :
  PC prog 93 [z0o u,z0k p,.int .i64 w] (encDe (zd6 u p w)):=by
 have c:=zmn w;have h:=zat u o b p t l;have m:=zx2;refine z14 3 (by simp only[pureD.pureL,z02,z1u,pureD,Z8]) rfl (zqzj [5000027,5000032,3000030,3000031,600006,900001,600042,900003,600040,900003] func93 rfl (by decide+kernel) rfl ?_);rw[show Tryz.f93.results.toList=[.cell 6 23,.tmp 7,.tmp 8] from rfl];unfold zd6
 by_cases d:whB w=true
 ·rw[if_neg (by rw[d];simp)];rw[d]at c;have g:0<=w/\w<=3:=of_decide_eq_true d
  by_cases k:(z1e u p).2=0
  ·rw[if_pos k];rw[k]at h;have j:=pc_lead u o q (z1e u p).1 w g;have f:=lead_ix w g;rcases zws u (z1e u p).1 w with h0|h0
   ·generalize z6x u (z1e u p).1 w=r at *;obtain⟨⟨i,n⟩,e⟩:=r;simp only at h0;subst h0
    repeat'(first|refine nxt ?_|((first|refine zqh fun K a=>?_|refine zqe (by decide+kernel) fun K a=>?_|refine zqs (c) ?_|refine zqs (h) ?_|refine zqt (m) ?_|refine zqt (j) ?_);simp(disch:=omega)only[go_sem,Z0,Zi,↓reduceIte,reduceCtorEq,Z2,Z1,Zs,z0a,z8u,zkg,zb8,Zp,Zo,f])|(refine zqd _ rfl ?_ ?_<;>intro b<;>(first|(cases b;done)|((try omega))))|refine zqu (by(simp(disch:=omega)only[go_sem,Z0,↓reduceIte,Z2,Z1]);rfl) rfl ?_|(refine a _ ?_;clear a K))
    exact z06 rfl (XX _)
   ·rw[h0]at j⊢
    repeat'(first|refine nxt ?_|((first|refine zqh fun K a=>?_|refine zqe (by decide+kernel) fun K a=>?_|refine zqs (c) ?_|refine zqs (h) ?_|refine zqt (m) ?_|refine zqt (j) ?_);simp(disch:=omega)only[go_sem,Z0,Zi,↓reduceIte,reduceCtorEq,Z2,Z1,Zs,ZF,z0a,z8u,zkg,zb8,Zp,Zo,f])|(refine zqd _ rfl ?_ ?_<;>intro b<;>(first|(cases b;done)|((try omega))))|refine zqu (by(simp(disch:=omega)only[go_sem,Z0,↓reduceIte,Z2,Z1]);rfl) rfl ?_|(refine a _ ?_;clear a K))
    exact z06 rfl (XX _)
  ·rw[if_neg k]
   repeat'(first|refine nxt ?_|((first|refine zqh fun K a=>?_|refine zqs (c) ?_|refine zqs (h) ?_);simp(disch:=omega)only[go_sem,Z0,↓reduceIte,Z2,Z1])|(refine zqd _ rfl ?_ ?_<;>intro b<;>(first|(cases b;done)|((try simp only[z05]at b);try omega)))|refine zqu (by(simp(disch:=omega)only[go_sem,Z0,↓reduceIte,Z2,Z1]);rfl) rfl ?_|(refine a _ ?_;clear a K))
   exact z06 rfl (XX _)
 ·rw[ZA]at d;rw[if_pos d];rw[d]at c
  repeat'(first|refine nxt ?_|((first|refine zqh fun K a=>?_|refine zqs (c) ?_);simp(disch:=omega)only[go_sem,Z0,↓reduceIte,Z2,Z1])|(refine zqd _ rfl ?_ ?_<;>intro b<;>(first|(cases b;done)|((try omega))))|refine zqu (by(simp(disch:=omega)only[go_sem,Z0,↓reduceIte,Z2,Z1]);rfl) rfl ?_|(refine a _ ?_;clear a K))
  exact z06 rfl (XX _)
theorem sp_bounds(u:T)(a:szB u=true)(id:Idv)(w:Int) : -1<=(z6x u id w).1.2/\(z6x u id w).1.2<=1000001:=by
 have c : -1<=(z3c id u).2.1/\(z3c id u).2.1<=1000000:=by
  unfold z3c;simp only;split
  ·exact⟨by simp only;omega,by simp only;omega⟩
  ·rename_i h;have b:=zah id u _ (Z6 (l:=z27 id u) (n:=(z27 id u).length-2) (by omega));have f:=(z79 (z6m u a _ b)).1;simp only;split<;>omega
 have d:=(z79 (z9g id u a)).1;unfold z6x;split
 ·simp only;omega
 split
 ·simp only;omega
 split
 ·simp only;split<;>omega
 ·simp only;omega
def goV(to id:Idv)(w:Int)(anc:List Idv)(p:Idv×Int×Bool)(s:(Idv×Int)×Int):(Idv×Int)×Int :=
 if p.2.2=false \/ (¬to=id/\id∈anc) \/ (to=id/\zer w=false) then ((Idv.zero,0),9) else
 if to=id then ((p.1,p.2.1),0) else
 if s.2=0/\s.1.1=p.1/\p.2.1<s.1.2 then ((s.1.1,s.1.2-1),s.2) else s
section
variable {to id own i:Idv}{w n z e:Int}{anc:List Idv}{ok:Bool}
theorem goV_1(h:ok=false):goV to id w anc (own,n,ok) ((i,z),e)=((Idv.zero,0),9):=if_pos (.inl h)
theorem goV_2(h:¬to=id)(a:id∈anc):goV to id w anc (own,n,ok) ((i,z),e)=((Idv.zero,0),9):=if_pos (.inr (.inl ⟨h,a⟩))
theorem goV_3(h:to=id)(a:zer w=false):goV to id w anc (own,n,ok) ((i,z),e)=((Idv.zero,0),9):=if_pos (.inr (.inr ⟨h,a⟩))
theorem goV_4(a:ok=true)(h:to=id)(b:zer w=true):goV to id w anc (own,n,ok) ((i,z),e)=((own,n),0):=by
 unfold goV;rw[if_neg (by simp[a,h,b]),if_pos h]
theorem goV_5(a:ok=true)(h:¬to=id)(b:¬id∈anc)(c:e=0)(d:i=own)(f:n<z):goV to id w anc (own,n,ok) ((i,z),e)=((i,z-1),e):=by
 unfold goV;rw[if_neg (by simp[a,h,b]),if_neg h,if_pos ⟨c,d,f⟩]
theorem goV_6(d:ok=true)(h:¬to=id)(f:¬id∈anc)(j:¬e=0 \/ ¬i=own \/ ¬n<z):goV to id w anc (own,n,ok) ((i,z),e)=((i,z),e):=by
 unfold goV;rw[if_neg (by simp[d,h,f]),if_neg h,if_neg (by rintro⟨a,b,c⟩;rcases j with g|g|g;exact g a;exact g b;exact g c)]
end
theorem pc_goes(u:T)(G:szB u=true)(X:depT u<=1000000)(id to:Idv)(w:Int)(W:0<=w/\w<=3) :
  PC prog 95 [z0o u,z0z id,z0z to,.int .i64 w] (zb8 (zl6 u id to w)):=by
 have I:=z9t u (z7o u G) (by omega) id;have Q:=zh3 u (z7o u G) (by omega) to;have L:=zeg to u;have R:=zo6 (z3i to u) (by omega) id;have U:=zx2;have F:=pc_lead u G X to w W;have x:=lead_ix w W;have y:=sp_bounds u G to w;have q:zer w=decide (w=2 \/ w=3):=rfl;refine z14 3 (by simp only[pureD.pureL,z02,pureD,Z8];rfl) rfl (zqzj [5000062,5000067,3000065,3000066] func95 rfl (by decide+kernel) rfl ?_);rw[show Tryz.f95.results.toList=[.cell 8 141,.tmp 9] from rfl];rw[show zl6 u id to w=goV to id w (z3i to u) (z3c id u) (z6x u to w) from rfl];generalize O:z3c id u=Z at I⊢;obtain⟨own,n,ok⟩:=Z;generalize M:z6x u to w=Y at F y⊢;obtain⟨⟨i,z⟩,e⟩:=Y;simp only at I F y;clear O M L
 by_cases J:w=2
 all_goals
  (repeat'(first|((first|refine z09 (N:=3) rfl fun K o=>?_|refine zqs (I) ?_);simp(disch:=omega)only[go_sem,Z0,↓reduceIte,Z2,Z1,J])|(refine o _ ?_;clear o K)))
 ·have p:zer w=true:=by rw[q,J];rfl
  (refine z2a (fun a=>a.t 3=.int .i64 w/\a.t 4=.ptr 0 0/\a.t 5=.ptr 1 0/\a.t 6=.ptr 2 0/\a.t 8=.ptr 3 0/\a.t 10=.bool true/\a.t 11=.ptr 4 0/\a.t 12=.int .i64 n/\a.t 13=.bool ok/\a.H 0=some (.box 27 (z08 u))/\a.H 1=some (.box 23 (z0a id))/\a.H 2=some (.box 23 (z0a to))/\a.H 3=some (.box 141 [.int .i64 0,.int .i64 0,.int .i64 0,.int .i64 0])/\a.H 4=some (.box 23 (z0a own))/\a.nx=5) ?_ ?_);rotate_left;(rintro a ⟨P,A,B,C,E,r,d,f,s,g,h,j,k,l,m⟩);rotate_left
  ·(simp(disch:=omega)only[go_sem,Z0,and_self,z0a,J])
  repeat'(first|refine nxt ?_|((first|refine zqh fun K o=>?_|refine zqe (by decide+kernel) fun K o=>?_|refine zqt (Q) ?_|refine zqt (R) ?_|refine zqt (U) ?_|refine zqt (F) ?_);simp(disch:=omega)only[go_sem,Z0,Zi,↓reduceIte,reduceCtorEq,Z2,Z1,Zs,P,A,B,C,E,d,f,s,g,h,j,k,l,m,z0a,z8u,zkg,zb8,Zp,Zo,x])|(refine zqd _ rfl ?_ ?_<;>intro v<;>(first|(cases v;done)|((try simp only[z05]at v);try omega)))|refine zqu (by(simp(disch:=omega)only[go_sem,Z0,↓reduceIte,Z2,Z1,E,k]);rfl) rfl ?_|(refine o _ ?_;clear o K)|(refine zqf (fun p=>?_) (fun p=>?_)<;>(have c:=p;try simp only[z05]at c)<;>((first|have b:(_:Bool)=_:=c|have b:=eq_false c|have b:=eq_true c);simp(disch:=omega)only[go_sem,Z0,Zi,↓reduceIte,reduceCtorEq,Z2,Z1,b,A,B,C,r,d,f,g,h,j,l,m,z0a];clear p b;try omega)))
  all_goals first
   |contradiction
   |(rw[goV_1 (by assumption)];exact z06 rfl (XX _))
   |(rw[goV_2 (by assumption) (by assumption)];exact z06 rfl (XX _))
   |(rw[goV_3 (by assumption) (by assumption)];exact z06 rfl (XX _))
   |(rw[goV_4 (by assumption) (by assumption) (by assumption)];exact z06 rfl (XX _))
   |(rw[goV_5 (by assumption) (by assumption) (by assumption) (by assumption) (by assumption) (by assumption)];exact z06 rfl (XX _))
   |(rw[goV_6 (by assumption) (by assumption) (by assumption) (by first|(left;assumption)|(right;left;assumption)|(right;right;assumption))];exact z06 rfl (XX _))
 ·have b:zer w=decide (w=3):=by rw[q,decide_eq_decide];omega
  (refine z2a (fun a=>a.t 3=.int .i64 w/\a.t 4=.ptr 0 0/\a.t 5=.ptr 1 0/\a.t 6=.ptr 2 0/\a.t 8=.ptr 3 0/\a.t 10=.bool (zer w)/\a.t 11=.ptr 4 0/\a.t 12=.int .i64 n/\a.t 13=.bool ok/\a.H 0=some (.box 27 (z08 u))/\a.H 1=some (.box 23 (z0a id))/\a.H 2=some (.box 23 (z0a to))/\a.H 3=some (.box 141 [.int .i64 0,.int .i64 0,.int .i64 0,.int .i64 0])/\a.H 4=some (.box 23 (z0a own))/\a.nx=5) ?_ ?_);rotate_left;(rintro a ⟨P,A,B,C,E,r,d,f,s,g,h,j,k,l,m⟩);rotate_left
  ·(simp(disch:=omega)only[go_sem,Z0,and_self,z0a,<-b])
  repeat'(first|refine nxt ?_|((first|refine zqh fun K o=>?_|refine zqe (by decide+kernel) fun K o=>?_|refine zqt (Q) ?_|refine zqt (R) ?_|refine zqt (U) ?_|refine zqt (F) ?_);simp(disch:=omega)only[go_sem,Z0,Zi,↓reduceIte,reduceCtorEq,Z2,Z1,Zs,P,A,B,C,E,d,f,s,g,h,j,k,l,m,z0a,z8u,zkg,zb8,Zp,Zo,x])|(refine zqd _ rfl ?_ ?_<;>intro v<;>(first|(cases v;done)|((try simp only[z05]at v);try omega)))|refine zqu (by(simp(disch:=omega)only[go_sem,Z0,↓reduceIte,Z2,Z1,E,k]);rfl) rfl ?_|(refine o _ ?_;clear o K)|(refine zqf (fun p=>?_) (fun p=>?_)<;>(have c:=p;try simp only[z05]at c)<;>((first|have b:(_:Bool)=_:=c|have b:=eq_false c|have b:=eq_true c);simp(disch:=omega)only[go_sem,Z0,Zi,↓reduceIte,reduceCtorEq,Z2,Z1,b,A,B,C,r,d,f,g,h,j,l,m,z0a];clear p b;try omega)))
  all_goals first
   |contradiction
   |(rw[goV_1 (by assumption)];exact z06 rfl (XX _))
   |(rw[goV_2 (by assumption) (by assumption)];exact z06 rfl (XX _))
   |(rw[goV_3 (by assumption) (by assumption)];exact z06 rfl (XX _))
   |(rw[goV_4 (by assumption) (by assumption) (by assumption)];exact z06 rfl (XX _))
   |(rw[goV_5 (by assumption) (by assumption) (by assumption) (by assumption) (by assumption) (by assumption)];exact z06 rfl (XX _))
   |(rw[goV_6 (by assumption) (by assumption) (by assumption) (by first|(left;assumption)|(right;left;assumption)|(right;right;assumption))];exact z06 rfl (XX _))
end
section
open Abs Facts Tr
attribute [local irreducible] awp
set_option maxRecDepth 100000
def z3v(u:T)(x:It):(Idv×Int)×Int :=
 if x.kind=0 then zd6 u x.at_ x.wh else if ¬x.kind=6 \/ whB x.wh=false then ((Idv.zero,0),1) else
 if ¬(z1e u x.at_).2=0 then ((Idv.zero,0),(z1e u x.at_).2) else if ¬(z1e u x.to).2=0 then ((Idv.zero,0),(z1e u x.to).2) else
 zl6 u (z1e u x.at_).1 (z1e u x.to).1 x.wh
theorem goes_err(u:T)(id to:Idv)(w:Int):(zl6 u id to w).2=0 \/ zl6 u id to w=((Idv.zero,0),9):=by
 unfold zl6;split
 ·exact .inr rfl
 split
 ·exact .inl rfl
 rcases zws u to w with h|h
 ·split
  ·exact .inl h
  ·exact .inl h
 ·rw[h,if_neg (by rintro⟨g,_⟩;cases g)];exact .inr rfl
theorem zlf(u:T)(o:szB u=true)(b:cntT u<=1100)(G:depT u<=1000000)(x:It)(F:x.at_.length<=maxLen)(k:∀s∈x.at_,s.label.size<=maxLen)(L:x.to.length<=maxLen)(w:∀s∈x.to,s.label.size<=maxLen) :
  PC prog 41 [z0o u,zfp x] (encDe (z3v u x)):=by
 have p:=zgj u o b G x.at_ F k x.wh;have g:=zmn x.wh;have h:=zat u o b x.at_ F k;have j:=zat u o b x.to L w;refine z14 3 (by simp only[pureD.pureL,z02,z5p,Z8]) rfl (zqzj [600071,900005,600069,900005,600004,900002] func41 rfl (by decide+kernel) rfl ?_);rw[show Tryz.f41.results.toList=[.cell 4 23,.tmp 5,.tmp 6] from rfl];unfold z3v
 by_cases v:x.kind=0
 ·rw[if_pos v];generalize zd6 u x.at_ x.wh=r at p⊢;obtain⟨⟨i,z⟩,e⟩:=r
  repeat'(first|refine nxt ?_|((first|refine zqh fun K a=>?_|refine zqs (p) ?_);simp(disch:=omega)only[go_sem,Z0,↓reduceIte,reduceCtorEq,Z2,Z1,encDe,v])|(refine zqd _ rfl ?_ ?_<;>intro b<;>(first|(cases b;done)|((try omega))))|refine zqu (by(simp(disch:=omega)only[go_sem,Z0,↓reduceIte,Z2,Z1]);rfl) rfl ?_|(refine a _ ?_;clear a K))
  exact z06 rfl (XX _)
 ·rw[if_neg v]
  by_cases m:¬x.kind=6 \/ whB x.wh=false
  ·rw[if_pos m]
   repeat'(first|refine nxt ?_|((first|refine zqh fun K a=>?_|refine zqs (g) ?_);simp(disch:=omega)only[go_sem,Z0,↓reduceIte,reduceCtorEq,Z2,Z1,z0k])|(refine zqd _ rfl ?_ ?_<;>intro b<;>(first|(cases b;done)|((try simp only[z05]at b);try omega)))|refine zqu (by(simp(disch:=omega)only[go_sem,Z0,↓reduceIte,Z2,Z1]);rfl) rfl ?_|(refine a _ ?_;clear a K)|(refine zqf (fun q=>?_) (fun q=>?_)<;>(have d:=q;try simp only[z05]at d)<;>((first|have f:=eq_false d|have f:=eq_true d);simp(disch:=omega)only[go_sem,Z0,↓reduceIte,reduceCtorEq,Z2,f];clear q f;try omega)))
   all_goals first|exact z06 rfl (XX _)|(exfalso;simp_all;done)
  ·rw[if_neg m];simp only[not_or,Y6,Y7]at m;obtain⟨c,H⟩:=m;rw[H]at g;have y:0<=x.wh/\x.wh<=3:=of_decide_eq_true H;clear p;generalize z1e u x.at_=M at h⊢;generalize z1e u x.to=N at j⊢;obtain⟨A,I⟩:=M;obtain⟨B,J⟩:=N;simp only at h j;have l:=pc_goes u o G A B x.wh y;have t:=goes_err u A B x.wh
   by_cases C:I=0
   ·subst C;rw[if_neg (by simp)]
    by_cases E:J=0
    ·subst E;rw[if_neg (by simp)];rcases t with h0|h0
     ·generalize zl6 u A B x.wh=r at l h0⊢;obtain⟨⟨i,n⟩,e⟩:=r;simp only at h0;subst h0
      repeat'(first|refine nxt ?_|((first|refine zqh fun K a=>?_|refine zqe (by decide+kernel) fun K a=>?_|refine zqs (g) ?_|refine zqs (h) ?_|refine zqs (j) ?_|refine zqs (l) ?_);simp(disch:=omega)only[go_sem,Z0,Zi,↓reduceIte,reduceCtorEq,Z2,Z1,ZF,z0a,z8u,zkg,zb8,z0k,Zp,Zo,c])|(refine zqd _ rfl ?_ ?_<;>intro b<;>(first|(cases b;done)|((try omega))))|refine zqu (by(simp(disch:=omega)only[go_sem,Z0,↓reduceIte,Z2,Z1]);rfl) rfl ?_|(refine a _ ?_;clear a K))
      exact z06 rfl (XX _)
     ·rw[h0]at l⊢
      repeat'(first|refine nxt ?_|((first|refine zqh fun K a=>?_|refine zqs (g) ?_|refine zqs (h) ?_|refine zqs (j) ?_|refine zqs (l) ?_);simp(disch:=omega)only[go_sem,Z0,↓reduceIte,reduceCtorEq,Z2,Z1,ZF,z0a,z8u,zkg,zb8,z0k,Zp,Zo,c])|(refine zqd _ rfl ?_ ?_<;>intro b<;>(first|(cases b;done)|((try omega))))|refine zqu (by(simp(disch:=omega)only[go_sem,Z0,↓reduceIte,Z2,Z1]);rfl) rfl ?_|(refine a _ ?_;clear a K))
      exact z06 rfl (XX _)
    ·rw[if_pos E]
     repeat'(first|refine nxt ?_|((first|refine zqh fun K a=>?_|refine zqs (g) ?_|refine zqs (h) ?_|refine zqs (j) ?_);simp(disch:=omega)only[go_sem,Z0,↓reduceIte,reduceCtorEq,Z2,Z1,ZF,z0k,c])|(refine zqd _ rfl ?_ ?_<;>intro b<;>(first|(cases b;done)|((try simp only[z05]at b);try omega)))|refine zqu (by(simp(disch:=omega)only[go_sem,Z0,↓reduceIte,Z2,Z1]);rfl) rfl ?_|(refine a _ ?_;clear a K))
     exact z06 rfl (XX _)
   ·rw[if_pos C]
    repeat'(first|refine nxt ?_|((first|refine zqh fun K a=>?_|refine zqs (g) ?_|refine zqs (h) ?_);simp(disch:=omega)only[go_sem,Z0,↓reduceIte,reduceCtorEq,Z2,Z1,ZF,z0k,c])|(refine zqd _ rfl ?_ ?_<;>intro b<;>(first|(cases b;done)|((try simp only[z05]at b);try omega)))|refine zqu (by(simp(disch:=omega)only[go_sem,Z0,↓reduceIte,Z2,Z1]);rfl) rfl ?_|(refine a _ ?_;clear a K))
    exact z06 rfl (XX _)
end
section
open Abs Facts Tr
namespace Tr
def bookB(u:T)(most:Int):Bool:=fewB u most&&(decide (u.kind=0)&&(z6y u&&(decide (u.kids.length=0) || !decide ((u.kids.headD u).id=u.id))))
theorem zun{u:T}{most:Int}(h:bookB u most=true):standsT u=true:=by
 unfold bookB z6y idsB at h;simp only[Zj,decide_eq_true_eq,Ya,Yh,decide_eq_false_iff_not]at h;obtain⟨_,e,⟨g,j,m,a⟩,h5⟩:=h;rw[z18];refine⟨g,j,m,?_⟩;rcases a with a|⟨a,d⟩
 ·have f:∀i∈idsT u,i=Idv.zero:=fun i n=>by simpa using ZC.1 a i n
  have c:u.id=Idv.zero:=f _ (z1b u);have b:u.kids=[]:=by
   cases b:u.kids with
   |nil=>rfl
   |cons k l =>
    exfalso;rw[b]at h5;rcases h5 with h5|h5
    ·simp at h5
    ·refine h5 ?_;rw[c];show k.id=_;refine f _ ?_;rw[z1c,b];exact Y1 _ (Y8.2 ⟨k,by simp,z1b k⟩)
  rw[z1c,b];exact⟨by simp,⟨fun _=>e,fun _=>c⟩,by simp⟩
 ·refine⟨d,a,fun o=>?_⟩;have c:=a.2 e;rw[z1c,List.nodup_cons]at d;exact d.1 (c ▸ o)
noncomputable def doR(u:T)(d:EIt):T×Int :=
 if (decide (0<=d.it.kind/\d.it.kind<=6)&&zdx d.it)=false then (u,1) else
 if ¬(z1e u d.it.at_).2=0 then (u,(z1e u d.it.at_).2) else
 if d.it.kind=0 then (zey u (z1e u d.it.at_).1 d.it.wh (z39 d.act d.item d.it.unit),z99 u (z1e u d.it.at_).1 d.it.wh (z39 d.act d.item d.it.unit)) else
 if ¬(z1e u d.it.to).2=0 then (u,(z1e u d.it.to).2) else (z57 u (z1e u d.it.at_).1 (z1e u d.it.to).1 d.it.wh,z67 u (z1e u d.it.at_).1 (z1e u d.it.to).1 d.it.wh)
theorem may_wh{x:It}(h:zdx x=true)(hk:x.kind=0 \/ x.kind=6):0<=x.wh/\x.wh<=3:=by
 rw[ztl]at h;unfold mayF z5u at h;simp only[Zj]at h;obtain⟨_,_,h⟩:=h;rcases hk with hk|hk
 ·rw[if_pos hk]at h;simp only[Zj,inB,decide_eq_true_eq]at h;exact h.1
 ·rw[if_neg (by omega),if_neg (by omega),if_neg (by omega),if_neg (by omega),if_neg (by omega),if_pos hk]at h;simp only[Zj,inB,decide_eq_true_eq]at h;exact h.1
theorem zx1{w:Int}(h:0<=w/\w<=3):whB w=true:=decide_eq_true h
theorem at_par{u:T}{id a:Idv}{n:Nat}(p:(idsT u).Nodup)(k:¬u.id=id)(o:id∈idsT u)(s:z3c id u=(a,(n:Int),true)) :
  a∈idsT u/\n<(z07 a u).1.kids.length/\∀h:n<(z07 a u).1.kids.length,(z07 a u).1.kids[n].id=id:=by
 obtain⟨q,l,x,r,b,t,f,g,v,w,y,i,_⟩:=zdw p k o;rw[s]at b;simp only[Yp,and_true]at b;obtain⟨j,d⟩:=b;have d:n=l.length:=by omega
 subst j d;rw[g];refine⟨i,?_,fun h=>?_⟩
 ·show _<(l++x::r).length;simp
 ·have c:∀(m:List T) (e:m=l++x::r) (h:l.length<m.length),m[l.length].id=id:=fun m e h=>by
   subst e;rw[Zx (ZH _)]
   simpa using f
  exact c _ rfl h
theorem edit_root{a:Idv}{f:T->T}(b:∀t,(f t).id=t.id)(t:T):(z10 a f t).id=t.id:=by
 rw[z6h];split
 ·exact b t
 ·rfl
theorem applied{u:T}{d:EIt}(z:standsT u=true)(F:zdx d.it=true)(hk:d.it.kind=0 \/ d.it.kind=6)(a:(doR u d).2=0) :
  (z3v u d.it).2=0/\0<=z7n (z3v u d.it).1.1 (doR u d).1/\∃n:Nat,(z3v u d.it).1.2=(n:Int)/\∃h:n<(z07 (z3v u d.it).1.1 (doR u d).1).1.kids.length,
   ((z07 (z3v u d.it).1.1 (doR u d).1).1.kids[n]).id=(if d.it.kind=6 then (z1e u d.it.at_).1 else ⟨d.act,d.item,1⟩):=by
 have p:=may_wh F hk;have o:=z1f z;have y:decide (0<=d.it.kind/\d.it.kind<=6)=true:=decide_eq_true (by omega);unfold doR at a⊢;rw[y,F]at a⊢;rw[Zu,if_neg (by simp)]at a⊢
 by_cases f:(z1e u d.it.at_).2=0
 case neg=>rw[if_pos f]at a;exact(f a).elim
 rw[if_neg (by simpa using f)]at a⊢;have b:(z1e u d.it.at_).1∈idsT u:=zew (e:=(z1e u d.it.at_).2) rfl f;unfold z3v zd6;rcases hk with hk|hk
 ·rw[if_pos hk]at a⊢;rw[if_pos hk,zx1 p,if_neg (by simp),if_pos f,if_neg (c:=d.it.kind=6) (by omega)];simp only at a⊢;obtain⟨K,L,M⟩:=znk o b p a;rw[K];unfold zey;rw[if_pos a];obtain⟨C,E,I⟩:=ins_at (x:=z39 d.act d.item d.it.unit) o L M;refine⟨rfl,?_,_,rfl,?_⟩
  ·have:z51 u (z1e u d.it.at_).1 d.it.wh∈idsT (z10 (z51 u (z1e u d.it.at_).1 d.it.wh) (z4u (zex u (z1e u d.it.at_).1 d.it.wh) (z39 d.act d.item d.it.unit)) u):=by
    have:=congrArg Yo C;rw[z1y,decide_eq_true_eq]at this;exact this
   exact ze2.2 (z4s.2 this)
  ·simp only[C];exact⟨E,by rw[I E,stamp_id]⟩
 ·rw[if_neg (c:=d.it.kind=0) (by omega)]at a⊢;rw[if_neg (c:=d.it.kind=0) (by omega),if_neg (by rw[zx1 p];simp[hk]),if_neg (by simpa using f),if_pos hk]
  by_cases i:(z1e u d.it.to).2=0
  case neg=>rw[if_pos i]at a;exact(i a).elim
  rw[if_neg (by simpa using i)]at a⊢;rw[if_neg (by simpa using i)];have m:(z1e u d.it.to).1∈idsT u:=zew (e:=(z1e u d.it.to).2) rfl i;simp only at a⊢;generalize (z1e u d.it.at_).1=id at *;generalize (z1e u d.it.to).1=to at *;rw[goes_ok z b m p a];obtain⟨s,U,G⟩:=zbn z b m a;unfold z57
  by_cases j:to=id
  ·rw[if_pos j,if_neg (fun h=>h.2 j)];obtain⟨q,l,x,r,B,_⟩:=zdw o s b;obtain⟨b1,g,w⟩:=at_par o s b B;simp only[B];exact⟨trivial,ze2.2 (z4s.2 b1),_,rfl,g,w g⟩
  ·rw[if_neg j,if_pos ⟨a,j⟩];obtain⟨W,X,H⟩:=G j;obtain⟨A,n,Y,N,O,P,Q,Z⟩:=zm2 H;have k:(z10 (z51 u to d.it.wh) (z4u (zpj u id to d.it.wh) (z07 id u).1) (z0q id u)).id=u.id/\id∈idsT (z10 (z51 u to d.it.wh) (z4u (zpj u id to d.it.wh) (z07 id u).1) (z0q id u)):=by
    obtain⟨_,R,y2,y3,_⟩:=zca O;refine⟨?_,R⟩;have J:=P;generalize (z10 (z51 u to d.it.wh) (z4u (zpj u id to d.it.wh) (z07 id u).1) (z0q id u))=v at *;rw[<-J,edit_root]
    ·exact((z4j id v).1).symm
    ·intro t;rfl
   obtain⟨b1,g,w⟩:=at_par (z1f Q) (fun e=>s (k.1 ▸ e)) k.2 N;exact⟨rfl,ze2.2 (z4s.2 b1),_,rfl,g,w g⟩
theorem moved{u:T}{id to:Idv}{wh:Int}(c:standsT u=true)(f:id∈idsT u)(v:to∈idsT u)(h:z67 u id to wh=0):∃(a:Idv) (n:Nat),z3c id u=(a,(n:Int),true)/\standsT (z57 u id to wh)=true/\id∈idsT (z57 u id to wh)/\¬(z57 u id to wh).id=id /\
  z7r (z57 u id to wh) id a n=0/\z10 a (z4u n (z07 id (z57 u id to wh)).1) (z0q id (z57 u id to wh))=u/\cntT (z57 u id to wh)=cntT u:=by
 obtain⟨d,E,k⟩:=zbn c f v h;unfold z57
 by_cases e:to=id
 ·rw[if_neg (fun g=>g.2 e)];obtain⟨a,n,x,m,i,H,I,J,K,q,r,s,b,o,p⟩:=z6t c d f;refine⟨a,n,m,c,f,d,zfl c i (zdb id u a b) d (fun t=>s a t b) q,?_,rfl⟩;rw[i];exact r
 ·rw[if_pos ⟨h,e⟩];obtain⟨F,G,l⟩:=k e;obtain⟨a,n,w,L,j,y,z,A⟩:=zm2 l;obtain⟨_,B,_,C,_⟩:=zca j;exact⟨a,n,w,z,B,C,j,y,A⟩
theorem zc9:∀t:T,z3m t=true->∀x∈z0c t,z3m x=true:=by
 refine z4a fun t b h x hx=>?_;rw[z1l,Y3]at hx;rcases hx with rfl|hx
 ·exact h
 ·obtain⟨k,a,hx⟩:=Y8.1 hx;rw[z42]at h;simp only[Zj]at h;exact b k a (ZC.1 h.2.2.1 k a) x hx
end Tr
namespace Tr
theorem cap_len{s:ByteArray}(h:z3x s=true):s.size<=7:=by
 unfold z3x at h;simp only[Zj,decide_eq_true_eq]at h;omega
theorem zny{l:List Wd}(h:zdc l=true):l.length<=256/\∀w∈l,w.text.size<=24:=by
 unfold zdc at h;simp only[Zj,decide_eq_true_eq,ZC]at h;refine⟨h.1,fun w a=>?_⟩;have:=h.2 w a;unfold z5t at this;simp only[Zj,decide_eq_true_eq]at this;omega
theorem right_sz:∀t:T,z3m t=true->szB t=true:=by
 refine z4a fun t l h=>?_;rw[z42]at h;simp only[Zj,ZC]at h;obtain⟨c,_,j,_⟩:=h;unfold z3l at c;simp only[Zj,decide_eq_true_eq]at c;obtain⟨_,n,g,i,b⟩:=c;obtain⟨m,e⟩:=zny g;obtain⟨b1,f⟩:=zny i;refine(z1k t).2 ⟨?_,by omega,fun w d=>by have:=e w d;omega,by omega,fun w d=>by have:=f w d;omega,by omega,fun k a=>l k a (j k a)⟩;split at b
 ·simp only[Zj,decide_eq_true_eq]at b;rw[b.1];decide
 ·have:=cap_len b;omega
theorem z9w{t:T}(h:standsT t=true):szB t=true/\cntT t<=1024/\depT t<=8 :=
 ⟨right_sz t ((z18 t).1 h).1,((z18 t).1 h).2.2.1,((z18 t).1 h).2.1⟩
theorem zu5{u:T}{id:Idv}{l:List Wd}(h:z4o u id l=0):standsT (z10 id (fun q=>q.setHead l) u)=true:=by
 obtain⟨c,r,j,d,p⟩:=zd0 h;obtain⟨C,e,g,b,_⟩:=focus id u r
 generalize (z07 id u).1=q at e g d;have a:id∉z4b C:=(z2c (x:=q) (by rw[<-e];exact z1f c) (g ▸ z1b q)).2;rw[e,z4n (fun q=>q.setHead l) g C b a];rw[e]at c;refine zg2 c rfl rfl rfl ?_ (fun h=>h);have k:=((z18 _).1 c).1;rw[z4v]at k;have f:=(z8y k.2).1;unfold z3l at f⊢;simp only[Zj,decide_eq_true_eq]at f⊢;obtain⟨m,n,t,o,i⟩:=f;refine⟨m,n,?_,o,?_⟩
 ·show zdc l=true;unfold zdc;rw[decide_eq_true p,Zu,ZC];intro w s;unfold oddB at j;have:=List.any_eq_false.1 j w s
  simpa using this
 ·rw[if_neg d]at i;rw[if_neg (show ¬(q.setHead l).kind=0 from d)];exact i
end Tr
end
section
open Abs Facts Tr
attribute [local irreducible] awp
set_option maxRecDepth 100000
theorem zfs(l:List ByteArray)(z:l.length<=1000000)(a i:Int)(k:Nat)(y:k<=1000000000000):PC prog 38 [z1n l,.int .i64 a,.int .i64 i,.int .i64 k] (z0f (z1v l a i k)):=by
 refine z14 2 (by simp only[pureD.pureL,z1q,pureD,Z8]) (z0g _) (zqzj [11] func38 rfl (by decide+kernel) rfl ?_)
 repeat'(first|refine nxt ?_|((refine zqh fun K c=>?_);simp(disch:=omega)only[go_sem,Z0,↓reduceIte,reduceCtorEq,Zh,z1n])|(refine c _ ?_;clear c K))
 (refine zqL (fun p d=>∃(j:_),p=l.length-j/\d.t 0=z1n l/\d.t 1=.int .i64 a/\d.t 2=.int .i64 i/\d.t 3=.int .i64 k/\d.t 9=.osl 0 j/\d.t 10=.int .i64 j/\d.H 0=some (.row 122 j ((z1v (l.take j) a i k).flatMap z1p))/\(j<=l.length)/\(1<=d.nx)) ?_ ?_);rintro p d ⟨j,rfl,n,q,r,s,o,e,b,w,x⟩;rotate_left
 ·(refine⟨_,0,rfl,?_⟩);simp(disch:=omega)only[go_sem,Z0,Z1,true_and,and_true,and_self,Z7,z1n]
  try simp[z1v]
 by_cases u:j<l.length
 ·have m:z1v (l.take (j+1)) a i k=z1v (l.take j) a i k++[⟨l[j],⟨a,i,((k+j:Nat):Int)⟩⟩]:=by
   rw[Z4 u,zg6,ZE,Yk (by omega)]
  have v:IntKind.i64.wrap ((k:Int)+j)=((k+j:Nat):Int):=by rw[zad (by omega)];omega
  repeat'(first|refine nxt ?_|((first|refine zqh fun K c=>?_|refine zqr fun K c=>?_);simp(disch:=omega)only[go_sem,Z0,↓reduceIte,reduceCtorEq,Z2,Zh,Z1,n,q,r,s,o,e,b,z1n,v])|(refine zqd _ rfl ?_ ?_<;>intro f<;>(((try simp only[z05]at f);try omega)))|(refine c _ ?_;clear c K))
  (refine⟨_,?_,j+1,rfl,?_⟩);rotate_left;simp(disch:=omega)only[go_sem,Z0,n,q,r,s,o,e,b,true_and,Z5,Z3,Zb,Zc,Zd,Ze,m,z1p];rotate_left
  ·omega
  ·omega
 ·repeat'(first|refine nxt ?_|((refine zqh fun K c=>?_);simp(disch:=omega)only[go_sem,Z0,↓reduceIte,n,o,e,z1n])|(refine zqd _ rfl ?_ ?_<;>intro f<;>(((try simp only[z05]at f);try omega)))|refine zqz ?_|refine zqU ?_|(refine c _ ?_;clear c K))
  have g:j=l.length:=by omega
  subst g;rw[Zg]at b;have h:l.length=(z1v l a i k).length:=(z2f l a i k).symm;rw[h]at b⊢;exact z3j (z2b (l:=z1v l a i k) 0 b z64 z7d (fun _=>rfl) (fun _=>rfl))
theorem zmv(l:List Wd)(p:l.length<=1000000):PC prog 251 [z0f l] (z1n (l.map (·.text))):=by
 refine z14 2 (by simp only[pureD.pureL,z0g,Z8]) (z1q _) (zqzj [5] func251 rfl (by decide+kernel) rfl ?_)
 repeat'(first|refine nxt ?_|((refine zqh fun K a=>?_);simp(disch:=omega)only[go_sem,Z0,↓reduceIte,reduceCtorEq,z0f])|(refine a _ ?_;clear a K))
 (refine zqL (fun k c=>∃(j:_),k=l.length-j/\c.t 0=z0f l/\c.t 3=.osl 0 j/\c.t 4=.int .i64 j/\c.H 0=some (.row 9 j (((l.take j).map (·.text)).map D.str))/\(j<=l.length)/\(1<=c.nx)) ?_ ?_);rintro k c ⟨j,rfl,g,h,i,b,n,o⟩;rotate_left
 ·(refine⟨_,0,rfl,?_⟩);simp(disch:=omega)only[go_sem,Z0,Z1,and_self,Z7,Zk,z0f]
 by_cases m:j<l.length
 ·have f:=Z4 m
  repeat'(first|refine nxt ?_|((first|refine zqh fun K a=>?_|refine zqr fun K a=>?_);simp(disch:=omega)only[go_sem,Z0,↓reduceIte,reduceCtorEq,Z2,Z1,Zs,g,h,i,b,z0f])|(refine zqd _ rfl ?_ ?_<;>intro d<;>(((try simp only[z05]at d);try omega)))|(refine a _ ?_;clear a K))
  (refine⟨_,?_,j+1,rfl,?_⟩);rotate_left;simp(disch:=omega)only[go_sem,Z0,g,h,i,b,true_and,Z5,Z3,Zy,Zf,Zk,f];rotate_left
  ·omega
  ·omega
 ·repeat'(first|refine nxt ?_|((refine zqh fun K a=>?_);simp(disch:=omega)only[go_sem,Z0,↓reduceIte,g,h,i,z0f])|(refine zqd _ rfl ?_ ?_<;>intro d<;>(((try simp only[z05]at d);try omega)))|refine zqz ?_|refine zqU ?_|(refine a _ ?_;clear a K))
  have e:j=l.length:=by omega
  subst e;rw[Zg]at b;exact z3j (z8j (cs:=(l.map (·.text)).map D.str) 0 b z7q zbz (by simp) (z0x (fun _=>rfl) _))
namespace Tr
theorem zxa(a i:Int):∀(l:List T) (n m:Nat),(za9 (l.map (z1x a i)) n m).2=(n+(l.flatMap z0c).length,m+(l.map wcT).sum):=by
 intro l
 induction l with
 |nil=>intro n m;simp[za9]
 |cons k l b =>
  intro n m;simp only[Zf,za9];rw[b,zpe];simp only[Zc,Z9,ZW];rw[Yp];refine⟨?_,?_⟩
  ·show n+cntT k+_=n+((z0c k).length+_);unfold cntT;omega
  ·omega
theorem sum_le{f g:T->Nat}:∀ {l:List T},(∀k∈l,f k<=g k)->(l.map f).sum<=(l.map g).sum
 |[],_=>ZH _
 |k::l,h=>by
  simp only[Zf,ZW];have:=h k (by simp);have:=sum_le (l:=l) fun k a=>h k (Y1 _ a);omega
theorem sum_mul(c:Nat)(f:T->Nat):∀l:List T,(l.map fun k=>c*f k).sum=c*(l.map f).sum
 |[]=>rfl
 |k::l=>by simp only[Zf,ZW,sum_mul c f l,Nat.mul_add]
theorem zgu(l:List T):(l.flatMap z0c).length=(l.map cntT).sum:=by
 induction l with
 |nil=>rfl
 |cons k l a=>rw[Zc,Z9,a,Zf,ZW];rfl
theorem wc_le:∀t:T,szB t=true->wcT t<=2000000*cntT t:=by
 refine z4a fun t d c=>?_;obtain⟨i,j,e,m,h,n,b⟩:=(z1k t).1 c;rw[zpd,z4f,zgu];have:=sum_le (f:=wcT) (g:=fun k=>2000000*cntT k) (l:=t.kids) fun k a=>d k a (b k a);rw[sum_mul]at this;omega
theorem zii{f:T->Nat}(l:List T)(j:Nat):((l.take j).map f).sum<=(l.map f).sum:=by
 conv=>rhs;rw[<-ZY j l,Zy,Yn]
 omega
end Tr
set_option maxHeartbeats 16000000 in
theorem z002(a i:Int):∀t:T,szB t=true->∀n m:Nat,n+cntT t<=1000000000->m+wcT t<=1000000000000 ->
  PC prog 162 [z0o t,.int .i64 a,.int .i64 i,.int .i64 n,.int .i64 m] (.tup [z0o (z1x a i t n m).1,.int .i64 ((z1x a i t n m).2.1:Nat),.int .i64 ((z1x a i t n m).2.2:Nat)]):=by
 refine z4a fun t ih Z n m hn hm=>?_;obtain⟨h0,M,g1,O,g2,h3,Y⟩:=(z1k t).1 Z;have B:=z4f t;have a0:=zpd t;rw[zgu]at B;have G:=zmv t.head M;have I:=zfs (t.head.map (·.text)) (by rw[Zm];exact M) a i m (by omega);have J:=zmv t.words O;have L:=zfs (t.words.map (·.text)) (by rw[Zm];exact O) a i (m+t.head.length) (by omega);simp only[z1n,ZN]at G I J L;have l1:(z1v (t.head.map (·.text)) a i m).length=t.head.length:=by rw[z2f,Zm]
 have l2:(z1v (t.words.map (·.text)) a i (m+t.head.length)).length=t.words.length:=by rw[z2f,Zm]
 have w1:IntKind.i64.wrap ((n:Int)+1)=((n+1:Nat):Int):=by rw[zad (by omega)];omega
 have w2:IntKind.i64.wrap ((m:Int)+t.head.length)=((m+t.head.length:Nat):Int):=by rw[zad (by omega)];omega
 have w3:IntKind.i64.wrap (((m+t.head.length:Nat):Int)+t.words.length)=((m+t.head.length+t.words.length:Nat):Int):=by rw[zad (by omega)];omega
 refine z14 5 (by simp only[pureD.pureL,z02,pureD,Z8]) (by simp only[pureD,pureD.pureL,z02,Z8]) (zqzj [49] func162 rfl (by decide+kernel) rfl ?_);rw[show Tryz.f162.results.toList=[.cell 10 27,.tmp 11,.tmp 12] from rfl];rw[show z0o t=.agg _ from by rw[z0o,z0n]]
 repeat'(first|refine nxt ?_|((first|refine z09 (N:=9) rfl fun K d=>?_|refine zqs (G) ?_|refine zqs (I) ?_|refine zqs (J) ?_|refine zqs (L) ?_);simp(disch:=omega)only[go_sem,Z0,↓reduceIte,reduceCtorEq,Z2,Zh,Z1,Zs,l1,l2,w1,w2,w3,z0f,ZP,ZQ,Zm])|(refine d _ ?_;clear d K))
 (refine zqL (fun P b=>∃(j:_),P=t.kids.length-j/\b.t 1=.int .i64 a/\b.t 2=.int .i64 i/\b.t 3=.int .i64 ((za9 ((t.kids.take j).map (z1x a i)) (n+1) (m+t.head.length+t.words.length)).2.1:Nat)/\b.t 4=.int .i64 ((za9 ((t.kids.take j).map (z1x a i)) (n+1) (m+t.head.length+t.words.length)).2.2:Nat)/\b.t 5=.ptr 0 0/\b.t 10=.ptr 1 0/\b.t 13=.osl 2 j/\b.t 14=.int .i64 j/\b.H 0=some (.box 27 [.int .i64 a,.int .i64 i,.int .i64 n,.int .i64 t.kind,.str t.label,z0f (z1v (t.head.map (·.text)) a i m),z0f (z1v (t.words.map (·.text)) a i (m+t.head.length)),z0l t.kids])/\b.H 1=some (.box 27 [.int .i64 0,.int .i64 0,.int .i64 0,.int .i64 0,.str Zw,.nil,.nil,.nil])/\b.H 2=some (.row 27 j ((za9 ((t.kids.take j).map (z1x a i)) (n+1) (m+t.head.length+t.words.length)).1.flatMap z08))/\(j<=t.kids.length)/\(3<=b.nx)) ?_ ?_);rintro P b ⟨j,rfl,Q,U,w,x,F,h,k,o,p,q,c,a1,a2⟩;rotate_left
 ·(refine⟨_,0,rfl,?_⟩);simp(disch:=omega)only[go_sem,Z0,Z1,true_and,and_true,and_self,Z5,Z3,Z7,Zk,z0f];refine⟨?_,?_,rfl⟩
  ·show (n:Int)+1=((n+1:Nat):Int)
   omega
  ·show (m:Int)+t.head.length+t.words.length=((m+t.head.length+t.words.length:Nat):Int)
   omega
 by_cases C:j<t.kids.length
 ·have v:=zxa a i (t.kids.take j) (n+1) (m+t.head.length+t.words.length);have u:=Z4 C;have y:=zii (f:=cntT) t.kids (j+1);have z:=zii (f:=wcT) t.kids (j+1);rw[u,Zy,Yn]at y z;simp only[Zf,Zk,ZW,List.sum_nil,Yq]at y z;rw[zgu]at v;have g:=zj7 (z1x a i t.kids[j]) ((t.kids.take j).map (z1x a i)) (n+1) (m+t.head.length+t.words.length);have e:=ih t.kids[j] (Z6 C) (Y _ (Z6 C)) (za9 ((t.kids.take j).map (z1x a i)) (n+1) (m+t.head.length+t.words.length)).2.1 (za9 ((t.kids.take j).map (z1x a i)) (n+1) (m+t.head.length+t.words.length)).2.2 (by rw[v];simp only;omega) (by rw[v];simp only;omega);clear v y z;generalize za9 ((t.kids.take j).map (z1x a i)) (n+1) (m+t.head.length+t.words.length)=R at *;obtain⟨R1,W,X⟩:=R;simp only at e g w x c;generalize hS:z1x a i t.kids[j] W X=S at *;obtain⟨S1,S2,S3⟩:=S;simp only at e g
  repeat'(first|refine nxt ?_|((first|refine zqh fun K d=>?_|refine zqr fun K d=>?_|refine zqs (e) ?_);simp(disch:=omega)only[go_sem,Z0,↓reduceIte,reduceCtorEq,Z2,Zh,Z1,Q,U,w,x,F,k,o,p,c,z0f,z0l])|(refine zqd _ rfl ?_ ?_<;>intro A<;>(((try simp only[z05]at A);try omega)))|(refine d _ ?_;clear d K))
  (refine⟨_,?_,j+1,rfl,?_⟩);rotate_left;simp(disch:=omega)only[go_sem,Z0,Z1,Q,U,w,x,F,h,k,o,p,q,c,true_and,Z5,Z3,Zb,Zc,Zd,Zy,Zf,Zk,Ze,u,g,z0f];rotate_left
  ·omega
  ·omega
 ·repeat'(first|refine nxt ?_|((refine zqh fun K d=>?_);simp(disch:=omega)only[go_sem,Z0,↓reduceIte,reduceCtorEq,Z2,Z1,Zs,w,x,F,h,k,o,p,q,z0l,z0f,ZP,ZQ])|(refine zqd _ rfl ?_ ?_<;>intro A<;>(((try simp only[z05]at A);try omega)))|refine zqz ?_|refine zqu (by(simp(disch:=omega)only[go_sem,Z0,↓reduceIte,Z2,Z1,h,q]);rfl) rfl ?_|(refine d _ ?_;clear d K))
  have E:j=t.kids.length:=by omega
  subst E;rw[Zg]at c⊢;have r:=(z71 a i (fun _ _=>True) t.kids (fun _ _ _ _=>trivial) (n+1) (m+t.head.length+t.words.length)).1;have s:=z56 a i t n m;unfold zpc at s;rw[s];generalize za9 (t.kids.map (z1x a i)) (n+1) (m+t.head.length+t.words.length)=R at *;refine z3j (zeu 4 (by simp only[pureD.pureL,pureD,Zr,ZZ]) (z00 (z9v 2 (t:=.mk ⟨a,i,(n:Int)⟩ t.kind t.label (z1v (t.head.map (·.text)) a i m) (z1v (t.words.map (·.text)) a i (m+t.head.length)) R.1) (z1j (f:=z08) (l:=R.1) 1 r ?_ z0p z35 z0h z04) rfl) (z00 (z0e _ rfl) (z00 (z0e _ rfl) z0i))));simp(disch:=omega)only[go_sem,Z0,c]
end
end
namespace Abs
theorem z6d{P:Program}{own:List Nat}{a b:Code}{Q:Exit->St->Prop}{st:St}(I:St->Prop)(d:awp P own a (zo8 I Q) st)(c:∀st,I st->awp P own b Q st):awp P own (.seq a b) Q st :=
 z84 a _ _ st (zrv (fun st h=>⟨st,SealTo.refl st,c st h⟩) (fun _ _ h=>h)) d
theorem z5o{P:Program}{own:List Nat}{a b c:Code}{Q:Exit->St->Prop}{st:St}(I:St->Prop)(g:awp P own (.seq a b) (zo8 I Q) st)(f:∀st,I st->awp P own c Q st):awp P own (.seq a (.seq b c)) Q st :=
 z84 a _ _ st (fun e st h=>by
  cases e with
  |normal=>obtain⟨d,i,h⟩:=h;exact⟨d,i,z6d I h f⟩
  |_=>exact h) g
theorem z5s{I:St->Prop}{Q:Exit->St->Prop}{st:St}(h:I st):zo8 I Q .normal st:=h
end Abs
end Go.Proofs.YtppebcifiejplaaGreatDoor
