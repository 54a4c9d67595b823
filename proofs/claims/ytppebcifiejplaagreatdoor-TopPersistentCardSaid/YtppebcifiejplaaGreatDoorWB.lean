import Derived.Test.YtppebcifiejplaaGreatDoorWA
import Derived.Orders
import Derived.ProofKit
import Derived.ChangeSlices
import Derived.Below
/-
 Lemmas of the claim. No condition but those that each names.
-/
set_option linter.unusedSimpArgs false
set_option linter.unusedVariables false
set_option linter.unusedSectionVars false
open Option renaming some.injEq->Z0,map_eq_some_iff->Z3,bind_eq_some_iff->Z7,map_some->Z9,getD_some->Zb,bind_some->Zr,map->ZA
open Bool renaming and_eq_true->Z1,false_eq_true->Z4,not_eq_true'->Z6,or_eq_true->Zf,and_self->ZF,or_false->ZO,not_true->ZP,or_true->ZU,and_false->Yc
open Prod renaming mk.injEq->Z2
open Array renaming getD_eq_getD_getElem?->Z5,getElem?_eq_getElem->Z8,toArray_toList->Ze,replicate->Zh,getElem?_eq_some_iff->Zw,toList_map->Zy,all_eq_true'->ZG,eq_empty_of_size_eq_zero->ZI,getElem?_setIfInBounds->ZM,map->ZQ,mem_toList_iff->Y1,ext'->Ym
open Nat renaming le_refl->Za,lt_of_lt_of_le->Zp,not_lt_zero->Zu,zero_add->Zv,lt_or_ge->ZB,add_sub_cancel_left->ZT,zero_le->ZY,add_zero->Yk,mul_one->Yl
open List renaming all_eq_true->Zc,range->Zd,mem_filter->Zg,cons_append->Zi,length_cons->Zj,range'->Zk,map_cons->Zl,range_eq_range'->Zm,mem_cons->Zn,getElem?_eq_getElem->Zo,pairwise_lt_range->Zq,eq_nil_of_length_eq_zero->Zs,range'_append_1->Zt,filter_congr->Zx,getElem?_cons_zero->Zz,cons.injEq->ZC,mem_range->ZD,filter_eq_self->ZE,length_append->ZH,filter_cons->ZJ,getElem_mem->ZK,nil_append->ZL,length_nil->ZN,getElem?_cons_succ->ZS,length_eq_one_iff->ZV,getElem?_eq_none->ZW,getElem?_toArray->ZX,mem_of_getElem?->ZZ,mem_cons_of_mem->Y0,drop_succ_cons->Y2,take_succ_cons->Y3,pairwise_cons->Y4,filter_append->Y5,getElem?_map->Y6,mem_append->Y7,filter_nil->Y8,take_left'->Y9,drop_left'->Ya,length_map->Yb,mapM_cons->Yd,drop_zero->Ye,map_take->Yf,map_drop->Yg,map_map->Yh,mem_map->Yi,map_nil->Yj
open Classical renaming propDecidable->ZR
namespace Go.Proofs.YtppebcifiejplaaGreatDoor
namespace Abs
open Go.RowKit
variable {P:Program}

theorem z6z{s:RS}{w:World}{x:Sem Value}{d:D}(h:RH P s w)(c:∃u,x.run P w=.ok u w/\rel s d u):Ran P s w (do pure (.value (<-x))) d s.H s.nx:=by
 obtain⟨u,a,b⟩:=c;exact ran_value h a b
theorem z74{s:RS}{w:World}{x:Sem Value}{d:D}{H:HM}{nx:Nat}(l:∃v a b,x.run P w=.ok v b/\Step s w a b/\RH P a b/\a.H=H/\a.nx=nx/\rel a d v) :
  Ran P s w (do pure (.value (<-x))) d H nx:=by
 obtain⟨v,a,b,c,e,h,i,j,k⟩:=l;exact⟨v,a,b,.inl (by simp[c]),e,h,i,j,k⟩

theorem box_sound{s:RS}{w:World}(h:RH P s w){e:TypeId}{d:D}{v:Value}{cs:List D}(p:z5g d=some cs)(r:rel s d v) :
  ∃u a c,(Instr.box e v).run P w=.ok u c/\Step s w a c/\RH P a c/\a.H=z0m s.H s.nx (some (.box e cs))/\a.nx=s.nx+1/\rel a (.ptr s.nx 0) u:=by
 obtain⟨j,k⟩:=zcl r p;have q:=zcj h (.pointer (some ⟨w.heap.size,0,none⟩)) (.box e cs)
 obtain⟨l,m⟩:=z7u h (Grew.alloc w (.cells v.cells e)) (.box e cs) (.pointer (some ⟨w.heap.size,0,none⟩)) (fun b o=>by simp only[blockOf,Z0]at o;omega)
  ⟨w.heap.size,v.cells.toList,rfl,by simpa using heap_alloc_new w (.cells v.cells e),relAll.later q _ _ j,k⟩
 refine⟨.pointer (some ⟨w.heap.size,0,none⟩),_,_,?_,l,m,rfl,rfl,?_⟩
 ·simp[Instr.box,newVar,newRow]
 ·simp only[rel];refine⟨by simp[RS.add],⟨_,rfl⟩,fun t i x=>⟨w.heap.size,by simp[RS.add],rfl⟩⟩

theorem zu9{s:RS}{w:World}(h:RH P s w){e:TypeId}{k:List D}(q:z4t P e=some k) :
  ∃u c j,(Instr.alloc e true (.tuple #[])).run P w=.ok u j/\Step s w c j/\RH P c j/\c.H=z0m s.H s.nx (some (.box e k))/\c.nx=s.nx+1/\rel c (.ptr s.nx 0) u:=by
 obtain⟨z,i,a,d,_⟩:=zeh q
 obtain⟨m,o⟩:=z7u h (Grew.alloc w (.cells z.cells e)) (.box e k) (.pointer (some ⟨w.heap.size,0,none⟩)) (fun b p=>by simp only[blockOf,Z0]at p;omega)
  ⟨w.heap.size,z.cells.toList,rfl,by simpa using heap_alloc_new w (.cells z.cells e),a _,d⟩
 refine⟨.pointer (some ⟨w.heap.size,0,none⟩),_,_,?_,m,o,rfl,rfl,?_⟩
 ·simp[Instr.alloc,i,newVar,newRow]
 ·simp only[rel];refine⟨by simp[RS.add],⟨_,rfl⟩,fun r l t=>⟨w.heap.size,by simp[RS.add],rfl⟩⟩

theorem zhq{s:RS}{w:World}(h:RH P s w){t e:TypeId}{len:Nat}{vparts:Array (Nat×Value)}{els cs:List D}{vs:List Value}(O:z3g P t=some e)(x:z0d P e≠0)
  (E:len*z0d P e<=2 ^ 24) (W:len=0 \/ z5f P e=true) (U:vparts.toList=(Zd len).zip vs) (q:vs.length=len) (F:relAll s els vs) (B:z21 (z0d P e) els=some cs) :
  (∃u d p,(Instr.buildSlice t len vparts).run P w=.ok u p/\Step s w d p/\RH P d p/\d.H=z0m s.H s.nx (some (.row e len cs))/\d.nx=s.nx+1/\rel d (.osl s.nx len) u) /\
  (∃u d p,(Instr.buildSlice t len vparts).run P w=.ok u p/\Step s w d p/\RH P d p/\d.H=s.H/\d.nx=s.nx/\rel d (.rsl true (z0d P e) els) u/\∃a,u=.slice (some a) len len):=by
 obtain⟨L,M,y⟩:=zbc B F;have m:=zl5 (w:=w) (z2t O) x E W U q y;have o:=zdp y;have l:len<=maxLen:=by
  have:len<=len*z0d P e:=Nat.le_mul_of_pos_right _ (Nat.pos_of_ne_zero x);simp only[maxLen];omega
 constructor
 ·have C:=zcj h (.slice (some ⟨w.heap.size,0,none⟩) len len) (.row e len cs)
  obtain⟨z,A⟩:=z7u h (Grew.alloc w (.cells (vs.flatMap (·.cells.toList)).toArray e)) (.row e len cs) (.slice (some ⟨w.heap.size,0,none⟩) len len)
   (fun b N=>by simp only[blockOf,Z0]at N;omega)
   ⟨vs.flatMap (·.cells.toList),⟨by rw[o,q],.inr ⟨w.heap.size,len,_,rfl,ZY _,heap_alloc_new w _,Za _,l,by simp only[List.size_toArray];rw[o,q],by
    rw[List.take_of_length_le (by rw[List.toList_toArray,o,q];exact Za _)]⟩⟩,relAll.later C _ _ L,M⟩
  refine⟨_,_,_,m,z,A,rfl,rfl,?_⟩;simp only[rel];refine⟨by simp[RS.add],⟨_,_,rfl⟩,fun X k J G=>?_⟩;simp only[RS.add,z0m,if_true,Z0,HObj.row.injEq]at G;obtain⟨_,rfl,_⟩:=G;exact⟨Za _,fun _=>by simp[RS.add]⟩
 ·obtain⟨z,A⟩:=zck h (Grew.alloc w (.cells (vs.flatMap (·.cells.toList)).toArray e));refine⟨_,_,_,m,z,A,rfl,rfl,?_⟩;refine⟨?_,⟨_,rfl⟩⟩;simp only[rel];have r:=z0j F;refine .inr ⟨⟨w.heap.size,0,none⟩,len,vs,by rw[<-r,q],by omega,l,relAll.later z.later _ _ F,fun i v I=>⟨y v (ZZ I),fun j c R=>?_⟩⟩;rw[z1i,z1i,Zv];simp only[RS.grow];rw[if_neg (by simp),World.cell?_alloc_new]
  simpa using zn5 y i v j c I R

theorem zh6(ρ:Operand->Value):∀(a:List (Nat×Operand)) (l:List Nat),a.map (·.1)=l->a.map (fun x=>(x.1,ρ x.2))=l.zip (a.map fun x=>ρ x.2)
 |[],l,h=>by subst h;rfl
 |p::b,l,h=>by
  subst h;simp only[Zl,List.zip_cons_cons,ZC,true_and];exact zh6 ρ b _ rfl

theorem zua{s:RS}{w:World}{c a b d:D}{vc va vb:Value}(e:zlj c a b=some d)(j:rel s c vc)(h:rel s a va)(i:rel s b vb) :
  ∃u,(do pure (if <-asBool vc then va else vb):Sem Value).run P w=.ok u w/\rel s d u:=by
 unfold zlj at e;split at e
 ·rename_i t;simp only[rel]at j;subst j;split at e
  ·rename_i x y;cases e;simp only[rel]at h i;subst h;subst i;cases t
   ·exact⟨.bool y,by simp[asBool],by simp[rel]⟩
   ·exact⟨.bool x,by simp[asBool],by simp[rel]⟩
  ·cases e;cases t
   ·exact⟨vb,by simp[asBool],by simpa using i⟩
   ·exact⟨va,by simp[asBool],by simpa using h⟩
 ·cases e

theorem pick_next{w:World}{vc va vb:Value}:(do pure (.value (if <-asBool vc then va else vb)):Sem Next).run P w =
  ((do pure (if <-asBool vc then va else vb):Sem Value).run P w).andThen fun v a=>.ok (.value v) a:=by
 cases vc<;>simp[asBool]
theorem zz5{s:RS}{w:World}{l:Array TypeId}{ty:TypeId}{x y d:D}{j k:Value}(c:maxD x y=some d)(h:rel s x j)(i:rel s y k):∃u,(Builtin.max_ l ty #[j,k]).run P w=.ok u w/\rel s d u:=by
 unfold maxD at c;split at c<;>first|(cases c;done)|skip
 cases c;simp only[rel]at h i;subst h;subst i;have e:∀a b:Int,max a b=if b > a then b else a:=fun a b=>by split<;>omega
 exact⟨_,by simp[Builtin.max_,Builtin.max2];rfl,by simp only[rel,e]⟩
theorem zz6{s:RS}{w:World}{l:Array TypeId}{ty:TypeId}{x y d:D}{j k:Value}(c:minD x y=some d)(h:rel s x j)(i:rel s y k):∃u,(Builtin.min_ l ty #[j,k]).run P w=.ok u w/\rel s d u:=by
 unfold minD at c;split at c<;>first|(cases c;done)|skip
 cases c;simp only[rel]at h i;subst h;subst i;have e:∀a b:Int,min a b=if b<a then b else a:=fun a b=>by split<;>omega
 exact⟨_,by simp[Builtin.min_,Builtin.min2];rfl,by simp only[rel,e]⟩

theorem zrk{ρ:Operand->Value}{c:Call}{b:Builtin}(h:c.callee=.builtin b)(ty:TypeId) :
  ∃a,(do let d <-resolve ρ c ty;invoke d.target d.args:Sem Next)=builtin b c.argTypes ty a (c.args.map ρ):=by
 unfold resolve;rw[h];exact⟨_,rfl⟩

theorem zk6:∀(c:List Nat) (k n:Nat),z9l c k n=true->c=Zk k (n-k)
 |[],k,n,h=>by
  simp only[z9l,beq_iff_eq]at h;subst h;simp
 |i::c,k,n,h=>by
  simp only[z9l,Z1,beq_iff_eq]at h;obtain⟨rfl,h⟩:=h;have o:=zk6 c (i+1) n h;have m:i<n:=by
   have j:∀(l:List Nat) (a b:Nat),z9l l a b=true->a<=b:=by
    intro l
    induction l with
    |nil=>intro a b d;simp only[z9l,beq_iff_eq]at d;omega
    |cons x l e =>
     intro a b d;simp only[z9l,Z1]at d;have:=e _ _ d.2;omega
   have:=j c (i+1) n h;omega
  have:n-i=(n-(i+1))+1:=by omega
  rw[this,List.range'_succ,<-o]

set_option maxHeartbeats 2000000 in
theorem opR_sound{own:List Nat}{o:Oper}{st:St}{s:RS}{a:Act}{w:World}(j:∀x,rel s (st.ev x) (a.eval x))(hH:s.H=st.H)(c7:s.nx=st.nx)(h:RH P s w)
  {d:D}{H:HM}{nx:Nat}(r:opR P own o st=some (d,H,nx)):Ran P s w (execOp a.eval o) d H nx:=by
 obtain⟨d3,e9,e7⟩:=st;simp only at hH c7;subst hH;subst c7;generalize d2:(⟨d3,s.H,s.nx⟩:St)=st at r j;have B:st.H=s.H:=by rw[<-d2]
 have C:st.nx=s.nx:=by rw[<-d2]
 have done:∀ {d0:Option D},st.keep d0=some (d,H,nx)->d0=some d/\H=s.H/\nx=s.nx:=by
  intro d0 h0;simp only[St.keep,Z3,Z2]at h0;obtain⟨d1,N,rfl,rfl,rfl⟩:=h0;exact⟨N,B,C⟩
 unfold opR at r;unfold execOp;split at r
 ·-- move
  rename_i x z;simp only[Z0,Z2]at r;obtain⟨rfl,rfl,rfl⟩:=r;rw[z,B,C];exact zay h rfl (j x)
 ·-- assign
  rename_i x z;rw[z];split at r
  ·rename_i c6;have I:=j x;rw[c6]at I;split at r
   ·simp only[Z3,Z2]at r;obtain⟨e,he,rfl,rfl,rfl⟩:=r;simp only[rel]at I;obtain⟨M,X⟩:=z7u h (Grew.refl w) (.row e 0 []) (.slice none 0 0) (fun b hb=>by cases hb) ⟨[],World.ownsRow_nil w 0 e _,z15,zon⟩;refine⟨.slice none 0 0,_,w,.inl (by simp[I]),M,X,by simp[RS.add,B,C],by simp[RS.add,C],?_⟩;rw[C];simp only[rel];refine⟨by simp[RS.add],⟨_,_,rfl⟩,fun e' k cs hH=>?_⟩;simp only[RS.add,z0m,if_true,Z0,HObj.row.injEq]at hH;obtain⟨_,rfl,_⟩:=hH;exact⟨Za _,fun _=>by simp[RS.add]⟩
   ·simp only[Z0,Z2]at r;obtain⟨rfl,rfl,rfl⟩:=r;rw[B,C];exact zay h rfl I
  ·simp only[Z0,Z2]at r;obtain⟨rfl,rfl,rfl⟩:=r;rw[B,C];exact zay h rfl (j x)
 ·-- pick
  rename_i c x y z;obtain⟨A,rfl,rfl⟩:=done r;rw[z];obtain⟨u,N,W⟩:=zua (P:=P) (w:=w) A (j c) (j x) (j y);refine zay h ?_ W;have M:=pick_next (P:=P) (w:=w) (vc:=a.eval c) (va:=a.eval x) (vb:=a.eval y);rw[N]at M;exact M
 ·-- alloc
  rename_i e z;rw[z];simp only[Z3,Z2]at r;obtain⟨zs,hz,rfl,rfl,rfl⟩:=r;rw[B,C];exact z74 (zu9 h hz)
 ·-- box
  rename_i e x z;rw[z];simp only[Z3,Z2]at r;obtain⟨cs,hc,rfl,rfl,rfl⟩:=r;rw[B,C];exact z74 (box_sound h hc (j x))
 ·-- build
  rename_i t E z;rw[z];obtain⟨A,rfl,rfl⟩:=done r;refine z6z h (zt2 A ?_);rw[Zy];exact zir a.eval st.ev j E.toList
 ·-- buildSlice
  rename_i t b8 E z;rw[z];split at r
  ·rename_i e he;simp only at r;split at r
   ·rename_i hc;obtain⟨e4,c8,e0,hz⟩:=hc;have a7:=zk6 _ _ _ c8;rw[Nat.sub_zero,<-Zm]at a7;simp only[Z7]at r;obtain⟨cs,d7,r⟩:=r;have hr:relAll s (E.toList.map fun x=>st.ev x.2) (E.toList.map fun x=>a.eval x.2):=by
     have hr:=z87 (s:=s) (fun x=>a.eval x) st.ev j (E.toList.map (·.2));simp only[Yh]at hr;exact hr
    have c0:(E.toList.map (fun x=>a.eval x.2)).length=b8:=by
     have:=congrArg List.length a7
     simpa using this
    have hb:=zhq (P:=P) (len:=b8) (vparts:=E.map fun(i,x)=>(i,a.eval x)) (els:=E.toList.map fun x=>st.ev x.2) (vs:=E.toList.map fun x=>a.eval x.2) h he e4 e0 hz
     (by rw[Zy];exact zh6 a.eval E.toList _ a7) c0 hr d7
    split at r
    ·simp only[Z0,Z2]at r;obtain⟨rfl,rfl,rfl⟩:=r;rw[B,C];exact z74 hb.1
    ·obtain⟨u,R,U,b1,b2,b3,b4,b5,b6,b7⟩:=hb.2;split at r
     ·rename_i e1;simp only[Z0,Z2]at r;obtain⟨rfl,rfl,rfl⟩:=r;rw[B,C];obtain⟨_,rfl⟩:=e1;exact z74 ⟨u,R,U,b1,b2,b3,b4,b5,by simpa only[rel] using b7⟩
     ·simp only[Z0,Z2]at r;obtain⟨rfl,rfl,rfl⟩:=r;rw[B,C];exact z74 ⟨u,R,U,b1,b2,b3,b4,b5,b6⟩
   ·cases r
  ·cases r
 ·-- load
  rename_i t p z;rw[z];obtain⟨A,rfl,rfl⟩:=done r;have A:=loadG_some A;rw[B]at A;exact z6z h (zn0 h A (j p))
 ·-- store
  rename_i t p v z;rw[z];simp only[Z3,Z2]at r;obtain⟨H',r,rfl,rfl,rfl⟩:=r;rw[B]at r;obtain⟨R,U,N,W,M,X,h5⟩:=zv9 h r (j p) (j v);exact⟨undef,R,U,.inr ⟨by simp[N],rfl⟩,W,M,X,by rw[h5,C],by simp[rel]⟩
 ·-- binOp
  rename_i op t x y ty z;rw[z];obtain⟨A,rfl,rfl⟩:=done r;exact z6z h (zxt A (j x) (j y))
 ·-- unOp
  rename_i op t x z;rw[z];obtain⟨A,rfl,rfl⟩:=done r;exact z6z h (unD_sound A (j x))
 ·-- convert
  rename_i f2 dst x z;rw[z];obtain⟨A,rfl,rfl⟩:=done r;unfold convD at A;split at A
  ·rename_i ks k k' n d9 hk O;simp only[Z0]at A;subst A;have I:=j x;rw[O]at I;simp only[rel]at I;have hu:=zj2 hk;refine z6z h ⟨.int k (k.wrap n),?_,by simp[rel]⟩;have e3:=zj2 d9;simp only[I,convert,Sem.run_bind,run_underlying e3,run_underlying hu,Result.andThen_ok]
   rfl
  ·exact z74 (zt5 h A (j x))
 ·-- makeFunc
  rename_i fn first cap z
  rw[z];split at r
  ·rename_i f;split at r
   ·rename_i hf;simp only[Z0,Z2]at r;obtain⟨rfl,rfl,rfl⟩:=r;rw[B,C];have a0:first = #[]:=ZI hf
    subst a0;refine z6z h ⟨.func (.func f) #[] (cap.map a.eval),by simp[Instr.makeFunc],?_⟩;simp only[rel];exact⟨(cap.toList.map a.eval),by rw[<-Zy,Ze],z87 (fun x=>a.eval x) st.ev j cap.toList⟩
   ·split at r
    ·rename_i hf;simp only[Z0,Z2]at r;obtain⟨rfl,rfl,rfl⟩:=r;rw[B,C];have a0:cap = #[]:=ZI hf;subst a0;refine z6z h ⟨.func (.func f) (first.map a.eval) #[],by simp[Instr.makeFunc],?_⟩;simp only[rel];exact⟨(first.toList.map a.eval),by rw[<-Zy,Ze],z87 (fun x=>a.eval x) st.ev j first.toList⟩
    ·cases r
  ·cases r
 ·-- makeMap
  rename_i t z;rw[z];simp only[Z3,Z2]at r;obtain⟨kt,_,rfl,rfl,rfl⟩:=r;rw[B,C];exact z74 (zn9 h t)
 ·-- range
  rename_i t x z;rw[z];simp only[Z3,Z2]at r;obtain⟨q,hq,rfl,rfl,rfl⟩:=r;rw[B,C];exact z74 (zt4 h hq (j x))
 ·-- next
  rename_i x b z;rw[z];rw[B,C]at r;exact z74 (zxy h r (j x))
 ·-- lookup
  rename_i t x k ok z;rw[z];obtain⟨A,rfl,rfl⟩:=done r;rw[B]at A;exact z6z h (zp1 h A (j x) (j k))
 ·-- mapUpdate
  rename_i t m k x z;rw[z];simp only[Z3,Z2]at r;obtain⟨H',r,rfl,rfl,rfl⟩:=r;rw[B]at r;obtain⟨R,U,N,W,M,X,h5⟩:=zh2 h r (j m) (j k) (j x);exact⟨undef,R,U,.inr ⟨by simp[N],rfl⟩,W,M,X,by rw[h5,C],by simp[rel]⟩
 ·-- insert
  rename_i t m k x z;rw[z];simp only[Z3,Z2]at r;obtain⟨H',r,rfl,rfl,rfl⟩:=r;rw[B]at r;obtain⟨R,U,N,W,M,X,h5⟩:=zh2 h r (j m) (j k) (j x);exact⟨undef,R,U,.inr ⟨by simp[N],rfl⟩,W,M,X,by rw[h5,C],by simp[rel]⟩
 ·-- makeSlice
  rename_i t l c z;rw[z];split at r
  ·rename_i e k l' k' c' he hl hc;split at r
   ·rename_i Z;obtain⟨rfl,h0,hb,d5,c9⟩:=Z;simp only[Z3,Z2]at r;obtain⟨zs,hz,rfl,rfl,rfl⟩:=r;have a9:=j l;have a8:=j c;rw[hl]at a9;rw[hc]at a8;simp only[rel]at a9 a8;rw[B,C];simp only[a9,a8];exact z74 (zxu h he hz h0 hb d5 c9)
   ·cases r
  ·cases r
 ·-- slice
  rename_i t x lo hi mx z;rw[z];split at r
  ·obtain⟨A,rfl,rfl⟩:=done r;refine z6z h (zvc A (j x) ?_ ?_ ?_ ?_)
   ·intro d G;cases lo with
    |none=>cases G
    |some y=>simp only[Z9,Z0]at G;subst G;exact⟨_,rfl,j y⟩
   ·intro hn;cases lo<;>first|rfl|cases hn
   ·intro d G;cases hi with
    |none=>cases G
    |some y=>simp only[Z9,Z0]at G;subst G;exact⟨_,rfl,j y⟩
   ·intro hn;cases hi<;>first|rfl|cases hn
  ·rename_i m;obtain⟨A,rfl,rfl⟩:=done r;refine z6z h (zsu A (j x) ?_ ?_ (j m))
   ·intro hn;cases lo<;>first|rfl|cases hn
   ·intro d G;cases hi with
    |none=>cases G
    |some y=>simp only[Z9,Z0]at G;subst G;exact⟨_,rfl,j y⟩
 ·-- fieldAddr
  rename_i t x f z;rw[z];obtain⟨A,rfl,rfl⟩:=done r;exact z6z h (zkx h A (j x))
 ·-- field
  rename_i t x f z;rw[z];split at r
  ·rename_i o' ft ds hf O;obtain⟨A,rfl,rfl⟩:=done r;have I:=j x;rw[O]at I;exact z6z h (zvb hf A I)
  ·cases r
 ·-- indexAddr
  rename_i t x i z;rw[z];obtain⟨A,rfl,rfl⟩:=done r;rw[B]at A;have A:=zkt A;exact z6z h (zl0 h A (j x) (j i))
 ·-- index
  rename_i t x i z;rw[z];obtain⟨A,rfl,rfl⟩:=done r;exact z6z h (zva A (j x) (j i))
 ·-- extract
  rename_i x i z;rw[z];split at r
  ·rename_i ds O;obtain⟨A,rfl,rfl⟩:=done r;have I:=j x;rw[O]at I;simp only[rel]at I;obtain⟨vs,e6,hr⟩:=I;obtain⟨u,hu,e2⟩:=z38 hr _ _ A;exact z6z h ⟨u,by simp[Instr.extract,e6,hu],e2⟩
  ·cases r
 ·-- nilCheck
  rename_i x z;rw[z];split at r
  ·rename_i d' O;simp only[Z0,Z2]at r;obtain⟨rfl,rfl,rfl⟩:=r;have I:=j x;rw[O]at I;have L:=I;simp only[rel]at L;obtain⟨ad,u,b0,_⟩:=L;rw[B,C];refine zay h ?_ I;simp[b0]
  ·rename_i id f1 O;simp only[Z0,Z2]at r;obtain⟨rfl,rfl,rfl⟩:=r;have I:=j x;rw[O]at I;have L:=I;simp only[rel]at L;obtain⟨_,⟨ad,b0⟩,_⟩:=L;rw[B,C];refine zay h ?_ I;simp[b0]
  ·cases r
 ·-- call
  rename_i c z;rw[z];split at r
  ·rename_i b b9;obtain⟨d4,d6⟩:=zrk (ρ:=a.eval) b9 o.type;simp only[d6];split at r
   ·rename_i x t F J;obtain⟨A,rfl,rfl⟩:=done r;rw[B]at A;have A:=lenG_some A;have Y:c.args = #[x]:=by rw[<-Ze (xs:=c.args),F]
    have ht:c.argTypes = #[t]:=by rw[<-Ze (xs:=c.argTypes),J]
    rw[Y,ht];have hm:ZQ a.eval #[x] = #[a.eval x]:=by simp
    rw[hm];exact z6z h (zxs h A (j x))
   ·rename_i e8 x y F;obtain⟨A,rfl,rfl⟩:=done r;have Y:c.args = #[x,y]:=by rw[<-Ze (xs:=c.args),F]
    rw[Y];have hm:ZQ a.eval #[x,y] = #[a.eval x,a.eval y]:=by simp
    rw[hm];exact z6z h (zz5 A (j x) (j y))
   ·rename_i e8 x y F;obtain⟨A,rfl,rfl⟩:=done r;have Y:c.args = #[x,y]:=by rw[<-Ze (xs:=c.args),F]
    rw[Y];have hm:ZQ a.eval #[x,y] = #[a.eval x,a.eval y]:=by simp
    rw[hm];exact z6z h (zz6 A (j x) (j y))
   ·rename_i x y t u F J;split at r
    ·rename_i e5;subst e5;rw[B,C]at r;have Y:c.args = #[x,y]:=by rw[<-Ze (xs:=c.args),F]
     have ht:c.argTypes = #[t,t]:=by rw[<-Ze (xs:=c.argTypes),J]
     rw[Y,ht];have hm:ZQ a.eval #[x,y] = #[a.eval x,a.eval y]:=by simp
     rw[hm];split at r
     ·obtain⟨A,rfl,rfl⟩:=done r;exact z74 (zn8 (ty:=o.type) h A (j x) (j y))
     ·split at r
      ·simp only[Z7]at r;obtain⟨⟨d1,H1,f0⟩,A,d8⟩:=r;obtain⟨v,s1,w1,a1,a2,a3,a4,a5,a6⟩:=zgy (ty:=o.type) h A (j x) (j y);obtain⟨s2,c1,c2,c3,c4,c5,_⟩:=ziv a3 a4 a5 a6 d8;exact z74 ⟨v,s2,w1,a1,a2.trans c1,c2,c3,c4,c5⟩
      ·exact z74 (zgy h r (j x) (j y))
    ·cases r
   ·cases r
  ·cases r
 ·cases r

end Abs
namespace Abs
open Go.RowKit
variable {P:Program}

def zwt(P:Program)(f:FuncId):Prop:=∃a,P.funcs[f]?=some a/\(a.name == "runtime.NumGoroutine")=false/\a.body.isNone=false

def AC(P:Program)(f:FuncId)(ds:List D)(H:HM)(nx:Nat)(K:D->HM->Nat->Prop):Prop :=
 zwt P f/\∀(s:RS) (w:World) (b:List Value),s.H=H->s.nx=nx->RH P s w->relAll s ds b ->
  Calls P f b.toArray w fun e c=>∃v r a,e=.returned v/\K r a.H a.nx/\Step s w a c/\RH P a c/\rel a r v
theorem AC.mono{f:FuncId}{ds:List D}{H:HM}{nx:Nat}{K a:D->HM->Nat->Prop}(h:AC P f ds H nx K)(i:∀r H nx,K r H nx->a r H nx):AC P f ds H nx a :=
 ⟨h.1,fun s w j b c d e=>(h.2 s w j b c d e).mono fun _ _ ⟨v,r,s',he,hr,rest⟩=>⟨v,r,s',he,i _ _ _ hr,rest⟩⟩
def RC(P:Program)(f:FuncId)(ds:List D)(H:HM)(nx:Nat)(r:D):Prop:=AC P f ds H nx fun c b a=>c=r/\b=H/\a=nx

structure Fr (P:Program) (N:Nat) (st:St) (s:RS) (a:Act) (w:World):Prop where
 H:s.H=st.H
 nx:s.nx=st.nx
 size:a.tmps.size=N
 defers:a.defers=[]
 tmps:∀i,rel s (st.t i) (a.tmps.getD i undef)
 heap:RH P s w

theorem Fr.ev{N:Nat}{st:St}{s:RS}{a:Act}{w:World}(h:Fr P N st s a w):∀x,rel s (st.ev x) (a.eval x)
 | .tmp t=>h.tmps t
 | .const v=>zsr s v
 | .global g=>h.heap.glob g
 | .func f=>by
  simp only[St.ev,Act.eval,rel];exact⟨[],rfl,z15⟩

def z6o(N:Nat)(o:Oper):Bool :=
 match o.dst with
 |some i=>decide (i<N)
 |none=>true

theorem Fr.put{N:Nat}{st:St}{s s':RS}{a:Act}{w w':World}(h:Fr P N st s a w)(p:Later s s')(r:RH P s' w'){o:Oper}(q:z6o N o=true){d:D}{v:Value}(t:rel s' d v){H:HM}{nx:Nat}
  (m:s'.H=H) (c:s'.nx=nx):Fr P N ({ st with H:=H,nx:=nx }.put o.dst d) s' (a.put o.dst v) w':=by
 cases b:o.dst with
 |none=>exact⟨m,c,h.size,h.defers,fun i=>rel.later p _ _ (h.tmps i),r⟩
 |some i =>
  simp only[z6o,b,decide_eq_true_eq]at q;refine⟨m,c,by simp[Act.put,h.size],h.defers,fun j=>?_,r⟩;simp only[St.put,updT,Act.put]
  by_cases k:j=i
  ·subst k;have l:j<a.tmps.size:=by rw[h.size];exact q
   simpa [Array.getD,l] using t
  ·rw[if_neg k];have:(a.tmps.setIfInBounds i v).getD j undef=a.tmps.getD j undef:=by
    simp only[Z5];rw[Array.getElem?_setIfInBounds_ne (fun e=>k e.symm)]
   rw[this];exact rel.later p _ _ (h.tmps j)
theorem Fr.put0{N:Nat}{st:St}{s:RS}{a:Act}{w:World}(h:Fr P N st s a w){o:Oper}(c:z6o N o=true){d:D}{v:Value}(b:rel s d v):Fr P N (st.put o.dst d) s (a.put o.dst v) w:=by
 have:=h.put (Step.refl s w).later h.heap c b h.H h.nx;exact this

theorem zc0{s:RS}:rel s (.tup []) undef:=by simp only[rel];exact⟨[],rfl,z15⟩
def z9x(ops:Array Oper)(st:St)(o:Oper):Option Bool :=
 match o.guard with
 |none=>some true
 |some (j,a)=>match (ops[j]?).bind (·.dst)with
  |some i=>match st.t i with
   | .bool b=>some (b==a)
   | .tup _=>some false
   |_=>none
  |none=>none

theorem z3n{N:Nat}{st:St}{s:RS}{a:Act}{w:World}(h:Fr P N st s a w){ops:Array Oper}{o:Oper}{g:Bool}(c:z9x ops st o=some g):Region.wanted o (yielded ops a.tmps)=g:=by
 unfold z9x at c;unfold Region.wanted;cases p:o.guard with
 |none=>rw[p]at c;simpa using c
 |some u =>
  obtain⟨j,e⟩:=u;rw[p]at c;simp only at c⊢;cases k:(ops[j]?).bind (·.dst)with
  |none=>rw[k]at c;cases c
  |some i =>
   rw[k]at c;simp only at c;have d:=h.tmps i;split at c
   ·rename_i b m;cases c;rw[m]at d;simp only[rel]at d;have r:a.tmps[i]?=some (.bool b):=by
     simp only[Z5]at d;cases l:a.tmps[i]? with
     |none=>rw[l]at d;simp[undef]at d
     |some x=>rw[l]at d;simp at d;rw[d]
    simp only[yielded,k,Zr,r];cases b<;>cases e<;>rfl
   ·rename_i v m;cases c;rw[m]at d;simp only[rel]at d;obtain⟨y,q,_⟩:=d;have t:yielded ops a.tmps j=none:=by
     simp only[yielded,k,Zr];cases l:a.tmps[i]? with
     |none=>rfl
     |some x =>
      simp only[Z5,l,Zb]at q;subst q;rfl
    rw[t];cases e<;>rfl
   ·cases c

def opW(P:Program)(own:List Nat)(o:Oper)(st:St)(K:St->Prop):Prop :=
 match o.op with
 | .call { callee:=.value f,args:=args,argTypes:=_ } =>
  match st.ev f with
  | .fn g cap=>AC P g (args.toList.map st.ev++cap) st.H st.nx fun r H nx=>K ({ st with H:=H,nx:=nx }.put o.dst r)
  | .bfn g first=>AC P g (first++args.toList.map st.ev) st.H st.nx fun r H nx=>K ({ st with H:=H,nx:=nx }.put o.dst r)
  |_=>False
 |_=>match opR P own o st with
  |some (d,H,nx)=>K ({ st with H:=H,nx:=nx }.put o.dst d)
  |none=>False

theorem zh7{f:FuncId}(h:zwt P f)(args:Array Value)(w:World):(callFunc f args).run P w=.ok (.enter f args) w:=by
 obtain⟨d,a,b,c⟩:=h;simp only[callFunc,Sem.run_bind,run_program,Result.andThen_ok,a,b,c,Z4,if_false,Sem.run_pure]

theorem zmc{s:RS}{ds a:List D}{vs us:List Value}(h:relAll s ds vs)(b:relAll s a us):relAll s (ds++a) (vs++us):=z17 h b

theorem zc1{N:Nat}{own:List Nat}{o:Oper}{st:St}{s:RS}{a:Act}{w:World}{K:St->Prop}{I:Act->World->Prop}{Q:Exit->Act->World->Prop}
  (h:Fr P N st s a w) (E:z6o N o=true) (j:opW P own o st K)
  (C:∀B p J m,K B->Fr P N B p J m->Step s w p m->I J m):o.wp P a w I Q:=by
 unfold opW at j;split at j
 ·rename_i f args R A;split at j
  ·rename_i g cap G;have y:=h.ev f;rw[G]at y;simp only[rel]at y;obtain⟨l,t,q⟩:=y;have i:=z87 (s:=s) (fun x=>a.eval x) st.ev h.ev args.toList;have F:=j.2 s w (args.toList.map (fun x=>a.eval x)++l) h.H h.nx h.heap (zmc i q);unfold Oper.wp;have c:(execOp a.eval o).run P w=.ok (.enter g (args.toList.map (fun x=>a.eval x)++l).toArray) w:=by
    unfold execOp;rw[A];simp only[resolve,t,Deferred.ofValue,Sem.run_bind,Sem.run_pure,Result.andThen_ok,invoke];rw[zh7 j.1]
    congr 2
    apply Ym;simp
   rw[c,Oper.upon_enter];refine F.mono fun e m ⟨v,r,p,he,hK,b,k,u⟩=>?_;subst he;exact C _ p _ m hK (h.put b.later k E u rfl rfl) b
  ·rename_i g first G
   have y:=h.ev f;rw[G]at y;simp only[rel]at y;obtain⟨l,t,q⟩:=y;have i:=z87 (s:=s) (fun x=>a.eval x) st.ev h.ev args.toList;have F:=j.2 s w (l++args.toList.map (fun x=>a.eval x)) h.H h.nx h.heap (zmc q i);unfold Oper.wp;have c:(execOp a.eval o).run P w=.ok (.enter g (l++args.toList.map (fun x=>a.eval x)).toArray) w:=by
    unfold execOp;rw[A];simp only[resolve,t,Deferred.ofValue,Sem.run_bind,Sem.run_pure,Result.andThen_ok,invoke];rw[zh7 j.1]
    congr 2
    apply Ym;simp
   rw[c,Oper.upon_enter];refine F.mono fun e m ⟨v,r,p,he,hK,b,k,u⟩=>?_;subst he;exact C _ p _ m hK (h.put b.later k E u rfl rfl) b
  ·cases j
 ·cases u:opR P own o st with
  |none=>rw[u]at j;cases j
  |some x =>
   obtain⟨d,H,U⟩:=x;rw[u]at j;simp only at j;obtain⟨v,p,m,c,b,k,L,z,M⟩:=opR_sound h.ev h.H h.nx h.heap u;unfold Oper.wp;rcases c with c|⟨c,O⟩
   ·rw[c,Oper.upon_value];exact C _ p _ m j (h.put b.later k E M L z) b
   ·rw[c,Oper.upon_skip,<-O];exact C _ p _ m j (h.put b.later k E M L z) b

def zrl(ops:Array Oper):List (Option Nat):=ops.toList.map (·.dst)
def zh8(c:List (Option Nat))(st:St)(o:Oper):Option Bool :=
 match o.guard with
 |none=>some true
 |some (j,a)=>match (c[j]?).bind id with
  |some i=>match st.t i with
   | .bool b=>some (b==a)
   | .tup _=>some false
   |_=>none
  |none=>none
theorem zc2(ops:Array Oper)(st:St)(o:Oper):zh8 (zrl ops) st o=z9x ops st o:=by
 unfold zh8 z9x zrl;have h:∀j:Nat,((ops.toList.map (·.dst))[j]?).bind id=(ops[j]?).bind (·.dst):=by
  intro j;rw[Y6,Array.getElem?_toList];cases ops[j]?<;>rfl
 cases o.guard with
 |none=>rfl
 |some b =>
  obtain⟨j,a⟩:=b;simp only[h];cases (ops[j]?).bind (·.dst)with
  |none=>rfl
  |some i=>rfl
def z2y(P:Program)(own:List Nat)(a:List (Option Nat)):List Oper->(St->Prop)->St->Prop
 |[],K,st=>K st
 |o::rest,K,st =>
  match zh8 a st o with
  |some true=>opW P own o st (z2y P own a rest K)
  |some false=>z2y P own a rest K (st.put o.dst (.tup []))
  |none=>False

theorem zgk{N:Nat}{own:List Nat}{ops:Array Oper}{K:St->Prop}{Q:Exit->Act->World->Prop}:∀(l:List Oper) (st:St) (s:RS) (a:Act) (w:World),
  (∀o∈l,z6o N o=true)->z2y P own (zrl ops) l K st->Fr P N st s a w ->
  (∀d q m k,K d->Fr P N d q m k->Step s w q k->Q .normal m k)->wpList P ops Q l a w
 |[],st,s,a,w,_,h,j,p=>p st s a w h j (Step.refl s w)
 |o::rest,st,s,a,w,e,h,j,p=>by
  have z:=e o (by simp);have b:∀x∈rest,z6o N x=true:=fun x B=>e x (Y0 _ B);simp only[z2y]at h;unfold wpList;rw[zc2]at h;split at h
  ·rename_i v;rw[if_pos (z3n j v)]
   exact .inl (zc1 j z h fun d q m k C t i =>
    zgk rest d q m k b C t fun y E A F r u c=>p y E A F r u (i.trans c))
  ·rename_i v;rw[if_neg (by rw[z3n j v];simp)];exact zgk rest _ s _ w b h (j.put0 z zc0) p
  ·cases h

end Abs
namespace Abs
open Go.RowKit
variable {P:Program}

def cls(own:List Nat)(o:Oper):Nat :=
 match o.op with
 | .move _ | .pick .. | .build .. | .binOp .. | .unOp .. | .convert .. | .makeFunc .. | .slice .. | .fieldAddr .. | .field .. | .index .. | .extract .. | .nilCheck _=>0
 | .assign _=>if zlk own o.dst=true then 2 else 0
 | .buildSlice .. => if zlk own o.dst=true then 2 else 0
 | .load .. | .lookup .. => 1
 | .indexAddr .. => if z0s 3000000 own o.dst=true then 0 else 1
 | .call { callee:=.value _,.. }=>if z0s 5000000 own o.dst=true then 0 else if z0s 4000000 own o.dst=true then 2 else 1
 | .call { callee:=.builtin .len,.. }=>if z0s 3000000 own o.dst=true then 0 else 1
 | .call { callee:=.builtin .append,.. }=>if z0s 1000000 own o.dst=true then 1 else 2
 | .call { callee:=.builtin .max,.. }=>0
 | .call { callee:=.builtin .min,.. }=>0
 |_=>2

def St.withH(st:St)(H:HM)(nx:Nat):St:={ st with H:=H,nx:=nx }
theorem z2p(st:St)(H:HM)(nx:Nat):(st.withH H nx).ev=st.ev:=by funext x;cases x<;>rfl

theorem z1w(st:St)(H:HM)(nx:Nat)(d:Option D):(st.withH H nx).keep d=d.map fun d=>(d,H,nx):=rfl
theorem z1m{st:St}{a:Option D}{d:D}{H:HM}{nx:Nat}(h:st.keep a=some (d,H,nx)):a=some d/\H=st.H/\nx=st.nx:=by
 simp only[St.keep,Z3,Z2]at h;obtain⟨c,b,rfl,rfl,rfl⟩:=h;exact⟨b,rfl,rfl⟩

theorem zo7{own:List Nat}{o:Oper}{st:St}{d:D}{H:HM}{nx:Nat}(c:cls own o=0)(h:opR P own o st=some (d,H,nx)) :
  H=st.H/\nx=st.nx/\∀j q,opR P own o (st.withH j q)=some (d,j,q):=by
 unfold cls at c;unfold opR at h⊢;simp only[z2p];split at c<;>rename_i s<;>first|(cases c;done)|(split at c<;>cases c;done)|skip
 all_goals simp only[s]at h⊢
 ·simp only[Z0,Z2]at h;obtain⟨rfl,rfl,rfl⟩:=h;exact⟨rfl,rfl,fun _ _=>rfl⟩
 ·obtain⟨a,rfl,rfl⟩:=z1m h;exact⟨rfl,rfl,fun _ _=>by rw[z1w,a];rfl⟩
 ·obtain⟨a,rfl,rfl⟩:=z1m h;exact⟨rfl,rfl,fun _ _=>by rw[z1w,a];rfl⟩
 ·obtain⟨a,rfl,rfl⟩:=z1m h;exact⟨rfl,rfl,fun _ _=>by rw[z1w,a];rfl⟩
 ·obtain⟨a,rfl,rfl⟩:=z1m h;exact⟨rfl,rfl,fun _ _=>by rw[z1w,a];rfl⟩
 ·obtain⟨a,rfl,rfl⟩:=z1m h;exact⟨rfl,rfl,fun _ _=>by rw[z1w,a];rfl⟩
 ·split at h
  ·split at h
   ·rename_i a;simp only[Z0,Z2]at h;obtain⟨rfl,rfl,rfl⟩:=h;exact⟨rfl,rfl,fun _ _=>by simp only[a,if_true];rfl⟩
   ·rename_i a;split at h
    ·rename_i l;simp only[Z0,Z2]at h;obtain⟨rfl,rfl,rfl⟩:=h;exact⟨rfl,rfl,fun _ _=>by simp only[a,l,if_true,if_false];rfl⟩
    ·cases h
  ·cases h
 ·split at h
  ·obtain⟨a,rfl,rfl⟩:=z1m h;exact⟨rfl,rfl,fun _ _=>by rw[z1w,a];rfl⟩
  ·obtain⟨a,rfl,rfl⟩:=z1m h;exact⟨rfl,rfl,fun _ _=>by rw[z1w,a];rfl⟩
 ·obtain⟨a,rfl,rfl⟩:=z1m h;exact⟨rfl,rfl,fun _ _=>by rw[z1w,a];rfl⟩
 ·split at h
  ·rename_i l v;obtain⟨a,rfl,rfl⟩:=z1m h;exact⟨rfl,rfl,fun _ _=>by rw[z1w,a];rfl⟩
  ·cases h
 ·obtain⟨a,rfl,rfl⟩:=z1m h;exact⟨rfl,rfl,fun _ _=>by rw[z1w,a];rfl⟩
 ·split at h
  ·rename_i l;obtain⟨a,rfl,rfl⟩:=z1m h;exact⟨rfl,rfl,fun _ _=>by rw[z1w,a];rfl⟩
  ·cases h
 ·split at h
  ·rename_i l;simp only[Z0,Z2]at h;obtain⟨rfl,rfl,rfl⟩:=h;exact⟨rfl,rfl,fun _ _=>rfl⟩
  ·rename_i l;simp only[Z0,Z2]at h;obtain⟨rfl,rfl,rfl⟩:=h;exact⟨rfl,rfl,fun _ _=>rfl⟩
  ·cases h
 ·split at c
  ·cases c
  ·rename_i b;split at h
   ·rename_i t;rw[if_neg b]at h;simp only[Z0,Z2]at h;obtain⟨rfl,rfl,rfl⟩:=h;refine⟨rfl,rfl,fun _ _=>?_⟩;simp only[if_neg b];rfl
   ·simp only[Z0,Z2]at h;obtain⟨rfl,rfl,rfl⟩:=h;exact⟨rfl,rfl,fun _ _=>rfl⟩
 ·split at c
  ·cases c
  ·rename_i b;split at h
   ·split at h
    ·rename_i i;simp only[Z7]at h;obtain⟨u,m,h⟩:=h;split at h
     ·rename_i k;simp only[Z0,Z2]at h;obtain⟨rfl,rfl,rfl⟩:=h;refine⟨rfl,rfl,fun _ _=>?_⟩;rw[if_pos i,m];simp only[Zr,if_neg b,if_pos k];rfl
     ·rename_i k;simp only[Z0,Z2]at h;obtain⟨rfl,rfl,rfl⟩:=h;refine⟨rfl,rfl,fun _ _=>?_⟩;rw[if_pos i,m];simp only[Zr,if_neg b,if_neg k];rfl
    ·cases h
   ·cases h
 ·split at c
  ·rename_i p;obtain⟨a,rfl,rfl⟩:=z1m h;refine⟨rfl,rfl,fun j r=>?_⟩;have e:hmG own o.dst (st.withH j r).H=hmG own o.dst st.H:=by unfold hmG;rw[if_pos p,if_pos p]
   rw[e,z1w,a];rfl
  ·cases c
 ·cases h
 ·split at c
  ·rename_i p;have e:∀j r,hmG own o.dst (st.withH j r).H=hmG own o.dst st.H:=fun j r=>by unfold hmG;rw[if_pos p,if_pos p]
   simp only[e];split at h
   all_goals first
    |(simp only[reduceCtorEq]at *;done)
    |(obtain⟨a,rfl,rfl⟩:=z1m h;exact⟨rfl,rfl,fun _ _=>by rw[z1w,a];rfl⟩)
  ·cases c
 ·split at h
  all_goals first
   |(simp only[reduceCtorEq]at *;done)
   |(obtain⟨a,rfl,rfl⟩:=z1m h;exact⟨rfl,rfl,fun _ _=>by rw[z1w,a];rfl⟩)
 ·split at h
  all_goals first
   |(simp only[reduceCtorEq]at *;done)
   |(obtain⟨a,rfl,rfl⟩:=z1m h;exact⟨rfl,rfl,fun _ _=>by rw[z1w,a];rfl⟩)

theorem opR_cls1{own:List Nat}{o:Oper}{st:St}{d:D}{H:HM}{nx:Nat}(i:cls own o<=1)(h:opR P own o st=some (d,H,nx)):H=st.H/\nx=st.nx:=by
  by_cases e:cls own o=0
  · exact⟨(zo7 e h).1,(zo7 e h).2.1⟩
  · have a:cls own o=1:=by omega
    unfold cls at a;unfold opR at h;split at a<;>rename_i c<;>first|(cases a;done)|skip
    all_goals simp only[c]at h
    · split at a<;>cases a
    · split at a<;>cases a
    · obtain⟨_,rfl,rfl⟩:=z1m h;exact⟨rfl,rfl⟩
    · obtain⟨_,rfl,rfl⟩:=z1m h;exact⟨rfl,rfl⟩
    · obtain⟨_,rfl,rfl⟩:=z1m h;exact⟨rfl,rfl⟩
    · cases h
    · split at h
      all_goals first
        |(simp only[reduceCtorEq]at *;done)
        |(obtain⟨_,rfl,rfl⟩:=z1m h;exact⟨rfl,rfl⟩)
    · split at a
      · rename_i b;split at h
        all_goals first
          |(simp only[reduceCtorEq]at *;done)
          |(split at h
            · first|rw[if_pos b]at h|skip
              obtain⟨_,rfl,rfl⟩:=z1m h;exact⟨rfl,rfl⟩
            · cases h)
      · cases a

theorem z9y {α β:Type}{f g:α->β}:∀(l:List α),(∀x∈l,f x=g x)->l.map f=l.map g:=fun _ h=>List.map_congr_left h

theorem opR_congr{own:List Nat}{o:Oper}{st q:St}(h:∀x∈o.op.operands.toList,st.ev x=q.ev x)(z:st.H=q.H)(j:st.nx=q.nx):opR P own o st=opR P own o q:=by
 unfold opR;have A:∀d,st.keep d=q.keep d:=fun d=>by simp only[St.keep,z,j]
 cases F:o.op<;>simp only[F,Op.operands]at h⊢
 case move x=>rw[h x (by simp),z,j]
 case assign x=>rw[h x (by simp),z,j]
 case pick c a b=>rw[h c (by simp),h a (by simp),h b (by simp),A]
 case alloc e=>rw[z,j]
 case box e x=>rw[h x (by simp),z,j]
 case build t parts =>
  have:parts.toList.map (fun x=>(x.1,st.ev x.2))=parts.toList.map (fun x=>(x.1,q.ev x.2)) :=
   z9y _ fun x C=>by rw[h x.2 (Yi.2 ⟨x,C,rfl⟩)]
  exact(congrArg (fun l=>st.keep (zb6 P t l)) this).trans (A _)
 case buildSlice t len parts =>
  have:parts.toList.map (fun x=>st.ev x.2)=parts.toList.map (fun x=>q.ev x.2) :=
   z9y _ fun x C=>h x.2 (Yi.2 ⟨x,C,rfl⟩)
  simp only[this,z,j]
 case load t p=>rw[h p (by simp),z,j,A]
 case store t p v=>rw[h p (by simp),h v (by simp),z,j]
 case binOp op t x y u=>rw[h x (by simp),h y (by simp),A]
 case unOp op t x=>rw[h x (by simp),A]
 case convert s d x=>rw[h x (by simp),A]
 case makeFunc fn first cap =>
  have:cap.toList.map st.ev=cap.toList.map q.ev:=z9y _ fun x C=>h x (by simp;exact .inr (by simpa using C));have E:first.toList.map st.ev=first.toList.map q.ev:=z9y _ fun x C=>h x (by simp;exact .inl (by simpa using C))
  simp only[this,E,z,j]
 case makeMap t r =>
  cases r with
  |none=>simp only[z,j]
  |some r=>rfl
 case range t x=>rw[h x (by simp),z,j]
 case next x b=>rw[h x (by simp),z,j]
 case lookup t x k ok=>rw[h x (by simp),h k (by simp),z,A]
 case mapUpdate t m k x=>rw[h m (by simp),h k (by simp),h x (by simp),z,j]
 case insert t m k x=>rw[h m (by simp),h k (by simp),h x (by simp),z,j]
 case makeSlice t l c=>rw[h l (by simp),h c (by simp),z,j]
 case slice t x lo hi mx =>
  have G:lo.map st.ev=lo.map q.ev:=by
   cases lo with
   |none=>rfl
   |some y=>simp only[Z9];rw[h y (by simp)]
  have I:hi.map st.ev=hi.map q.ev:=by
   cases hi with
   |none=>rfl
   |some y=>simp only[Z9];rw[h y (by simp)]
  cases mx with
  |none=>rw[h x (by simp),G,I];simp only[A]
  |some m =>
   show st.keep (zax P t (st.ev x) (ZA st.ev lo) (ZA st.ev hi) (st.ev m))=q.keep (zax P t (q.ev x) (ZA q.ev lo) (ZA q.ev hi) (q.ev m));rw[h x (by simp),G,I,h m (by simp)];simp only[A]
 case fieldAddr s x f=>rw[h x (by simp),A]
 case field t x f=>rw[h x (by simp)];simp only[A]
 case indexAddr t x i=>rw[h x (by simp),h i (by simp),z,A]
 case index t x i=>rw[h x (by simp),h i (by simp),A]
 case extract x i=>rw[h x (by simp)];simp only[A]
 case nilCheck x=>rw[h x (by simp),z,j]
 case call c =>
  have w:∀x∈c.args.toList,st.ev x=q.ev x:=fun x C=>h x (by simp[Call.operands];exact .inr (by simpa using C));split
  ·rename_i b J;split
   ·rename_i x t B _;rw[w x (by rw[B];simp),z,A]
   ·rename_i x y B;rw[w x (by rw[B];simp),w y (by rw[B];simp),A]
   ·rename_i x y B;rw[w x (by rw[B];simp),w y (by rw[B];simp),A]
   ·rename_i x y t u B _;rw[w x (by rw[B];simp),w y (by rw[B];simp),z,j,A]
   ·rfl
  ·rfl

end Abs
namespace Abs
open Go.RowKit
variable {P:Program}

def zb7(st:St)(H:HM)(nx:Nat):Prop:=st.nx<=nx/\∀id,(id<st.nx->∀e a,st.H id=some (.box e a)->H id=some (.box e a))/\(id<nx->∀e a,H id=some (.box e a)->id<st.nx/\st.H id=some (.box e a))
def zfa(st:St)(H:HM)(nx:Nat):Prop:=st.nx<=nx/\∀id,id<st.nx->H id=st.H id
def RCF(P:Program)(own:List Nat)(dst:Option Nat)(g:FuncId)(ds:List D)(st:St)(d:D):Prop :=
 RC P g ds st.H st.nx d/\(z0s 11000000 own dst=true->∀H a,zfa st H a->RC P g ds H a d)
def ze8(i:Nat):List Nat->Option Nat
 |s::r::l=>if s=i+600000 then some r else ze8 i (r::l)
 |_=>none
def objD:D->Option Nat
 | .ptr id _=>some id
 | .eptr id _ _=>some id
 | .osl id _=>some id
 |_=>none
def okT(own:List Nat)(dst:Option Nat)(d:D):Bool :=
 match dst with
 |some i=>(match ze8 i own with
  |some r=>(match objD d with
   |some id=>decide (id+900000=r)
   |none=>false)
  |none=>true)
 |none=>true
def okU(own:List Nat)(dst:Option Nat)(d:D):Bool :=
 if z0s 9000000 own dst=true then (match d with
  | .ptr id _=>decide (z3b own<=id)
  | .osl id _=>decide (z3b own<=id)
  | .rptr _=>true
  | .rsl _ _ _=>true
  |_=>false) else true
def isG(own:List Nat)(dst:Option Nat):Bool:=z0s 12000000 own dst && !z0s 3000000 own dst && !z0s 6000000 own dst && !z0s 9000000 own dst
def okG(own:List Nat)(dst:Option Nat)(nx:Nat)(d:D):Bool :=
 if isG own dst=true then (match d with
  | .ptr id _=>decide (id<nx)
  | .eptr id _ _=>decide (id<nx)
  | .osl id _=>decide (id<nx)
  |_=>false) else true
def zrm:Operand->Option Nat
 | .tmp i=>some i
 |_=>none
def okW(own:List Nat)(o:Oper)(st:St):Bool :=
 match o.op with
 | .buildSlice .. => if z0s 7000000 own o.dst=true/\zlk own o.dst=true then decide (z3b own<=st.nx) else true
 | .alloc _=>if z0s 7000000 own o.dst=true then decide (z3b own<=st.nx) else true
 | .load _ p=>okT own o.dst (st.ev p)&&okU own o.dst (st.ev p)&&okG own o.dst st.nx (st.ev p)
 | .indexAddr _ x _=>okT own o.dst (st.ev x)&&okU own o.dst (st.ev x)&&okG own o.dst st.nx (st.ev x)
 | .store _ p _=>okT own (zrm p) (st.ev p)
 | .call { callee:=.builtin .append,args:=args,.. } =>
  if z0s 7000000 own o.dst=true then
   (match args.toList with
   |x::_=>(match st.ev x with
    | .osl id _=>decide (z3b own<=id/\z3b own<=st.nx)
    |_=>decide (z3b own<=st.nx))
   |[]=>false)
  else true
 |_=>true
theorem okW_congr{own:List Nat}{o:Oper}{st h:St}(a:∀x∈o.op.operands.toList,st.ev x=h.ev x)(j:st.nx=h.nx):okW own o st=okW own o h:=by
 unfold okW;cases e:o.op<;>simp only[j]
 ·rename_i t p;rw[e]at a;rw[a p (by simp[Op.operands])]
 ·rename_i t p v;rw[e]at a;rw[a p (by simp[Op.operands])]
 ·rename_i t x i;rw[e]at a;rw[a x (by simp[Op.operands])]
 rename_i c;obtain⟨d,args,q⟩:=c;rw[e]at a;simp only[Op.operands,Call.operands]at a;cases d<;>first|rfl|skip
 rename_i b;cases b<;>first|rfl|skip
 simp only;split
 ·cases k:args.toList with
  |nil=>rfl
  |cons x l =>
   simp only
   have:st.ev x=h.ev x:=a x (by
    have m:x∈args:=Y1.1 (by rw[k];simp)
    simpa using m)
   rw[this]
 ·rfl
theorem zam{own:List Nat}{o:Oper}{st:St}{H:HM}{nx:Nat}{t:TypeId}{p:Operand}(a:o.op=.load t p)(b:isG own o.dst=false:=by simp_all [isG]):okW own o (st.withH H nx)=okW own o st:=by
 unfold okW;rw[a];simp only[okG,b,Z4,if_false];rfl
theorem zk7{own:List Nat}{o:Oper}{st:St}{H:HM}{nx:Nat}{t:TypeId}{x i:Operand}(a:o.op=.indexAddr t x i)(b:isG own o.dst=false):okW own o (st.withH H nx)=okW own o st:=by
 unfold okW;rw[a];simp only[okG,b,Z4,if_false];rfl
def tcM(own:List Nat)(dst:Option Nat):Option Nat:=if z0s 4000000 own dst=true then (match dst with|some i=>ze8 i own|none=>none) else none
def CallB(P:Program)(own:List Nat)(dst:Option Nat)(g:FuncId)(ds:List D)(H0:HM)(c:Nat)(st:St)(d:D)(H:HM)(nx:Nat):Prop :=
 (tcM own dst=none/\((z0s 10000000 own dst=false/\zb7 st H nx) \/ (z0s 10000000 own dst=true/\zfa st H nx))) \/ ∃k e,tcM own dst=some (k+900000)/\k<z3b own/\z3b own<=c/\nx=c/\H=z0m H0 k e /\
  ∀a b,z3b own<=b->a k=H0 k->AC P g ds a b (fun j h i=>j=d/\h=z0m a k e/\i=b)
def z16(P:Program)(own:List Nat)(ops:Array Oper)(o:Oper)(st:St)(d:D)(H:HM)(nx:Nat):Prop :=
 (z9x ops st o=some true/\((∃f args b g cap,o.op=.call { callee:=.value f,args:=args,argTypes:=b }/\st.ev f=.fn g cap/\((z0s 5000000 own o.dst=false/\tcM own o.dst=none/\RCF P own o.dst g (args.toList.map st.ev++cap) st d/\H=st.H/\nx=st.nx) \/
   (z0s 5000000 own o.dst=true/\(∀H nx,RC P g (args.toList.map st.ev++cap) H nx d)/\H=st.H/\nx=st.nx) \/
   (z0s 5000000 own o.dst=false/\z0s 4000000 own o.dst=true/\AC P g (args.toList.map st.ev++cap) st.H st.nx (fun e c a=>e=d/\c=H/\a=nx)/\CallB P own o.dst g (args.toList.map st.ev++cap) st.H st.nx st d H nx))) \/
  (opR P own o st=some (d,H,nx)/\okW own o st=true))) \/ (z9x ops st o=some false/\d=.tup []/\H=st.H/\nx=st.nx)
def St.next(st:St)(o:Oper)(d:D)(H:HM)(nx:Nat):St:=(st.withH H nx).put o.dst d

theorem zub{ops:Array Oper}{o:Oper}{st a:St}(h:∀t∈o.looksAt ops,st.t t=a.t t):∀x∈o.op.operands.toList,st.ev x=a.ev x:=by
 intro x b;cases x with
 |tmp t =>
  refine h t ?_;unfold Oper.looksAt;refine Y7.2 (.inl (List.mem_filterMap.2 ⟨_,b,rfl⟩))
 |const v=>rfl
 |global g=>rfl
 |func f=>rfl
theorem zlc{ops:Array Oper}{o:Oper}{st a:St}(h:∀t∈o.looksAt ops,st.t t=a.t t):z9x ops st o=z9x ops a o:=by
 unfold z9x;cases d:o.guard with
 |none=>rfl
 |some e =>
  obtain⟨j,b⟩:=e;simp only;cases c:(ops[j]?).bind (·.dst)with
  |none=>rfl
  |some i =>
   have:=h i (by
    unfold Oper.looksAt;refine Y7.2 (.inr ?_)
    rw[d];simp only[c];simp)
   simp only[this]

theorem z12{own:List Nat}{ops:Array Oper}{o:Oper}{st e:St}{d:D}{H:HM}{nx:Nat}(h:∀t∈o.looksAt ops,st.t t=e.t t)(j:st.H=e.H)(b:st.nx=e.nx)
  (hs:z16 P own ops o st d H nx):z16 P own ops o e d H nx:=by
 have c:=zub h;unfold z16 at *;rw[zlc h]at hs;rcases hs with ⟨u,hs⟩|⟨u,hs⟩
 ·refine .inl ⟨u,?_⟩;rcases hs with ⟨f,args,v,g,cap,m,w,k⟩|hs
  ·rw[m]at c;simp only[Op.operands,Call.operands]at c;have a:args.toList.map st.ev=args.toList.map e.ev:=z9y _ fun x A=>c x (by simp;exact .inr (by simpa using A));refine .inl ⟨f,args,v,g,cap,m,by rw[<-c f (by simp)];exact w,?_⟩;rcases k with ⟨l,z,i,q,r⟩|⟨l,i,q,r⟩|⟨l,y,s,p⟩
   ·refine .inl ⟨l,z,?_,by rw[q,j],by rw[r,b]⟩;unfold RCF zfa at i⊢;rw[<-a,<-j,<-b];exact i
   ·exact .inr (.inl ⟨l,by rw[<-a];exact i,by rw[q,j],by rw[r,b]⟩)
   ·refine .inr (.inr ⟨l,y,by rw[<-a,<-j,<-b];exact s,?_⟩);unfold CallB zb7 zfa at p⊢;rw[<-a,<-j,<-b];exact p
  ·exact .inr ⟨by rw[<-opR_congr c j b];exact hs.1,by rw[<-okW_congr c b];exact hs.2⟩
 ·exact .inr ⟨u,hs.1,by rw[hs.2.1,j],by rw[hs.2.2,b]⟩

theorem zk8(ops:Array Oper)(st:St)(o:Oper)(H:HM)(nx:Nat):z9x ops (st.withH H nx) o=z9x ops st o:=rfl

theorem zmd{own:List Nat}{ops:Array Oper}{o:Oper}{st:St}{d:D}{H:HM}{nx:Nat}(b:cls own o=0)(hs:z16 P own ops o st d H nx) :
  H=st.H/\nx=st.nx/\∀e c,z16 P own ops o (st.withH e c) d e c:=by
 unfold z16 at *;rcases hs with ⟨m,hs⟩|⟨m,k,l,p⟩
 ·rcases hs with ⟨f,args,r,g,cap,a,t,⟨j,_⟩|⟨j,q,k,l⟩|⟨j,_⟩⟩|hs
  ·unfold cls at b;rw[a]at b;simp only[j,Z4,if_false]at b;split at b<;>cases b
  ·exact⟨k,l,fun e c=>.inl ⟨m,.inl ⟨f,args,r,g,cap,a,by rw[z2p];exact t,.inr (.inl ⟨j,by rw[z2p];exact q,rfl,rfl⟩)⟩⟩⟩
  ·unfold cls at b;rw[a]at b;simp only[j,Z4,if_false]at b;split at b<;>cases b
  ·obtain⟨k,l,p⟩:=zo7 b hs.1;refine⟨k,l,fun e c=>.inl ⟨m,.inr ⟨p e c,?_⟩⟩⟩;unfold cls at b;unfold okW;split
   ·rename_i a;simp only[a]at b;rw[if_neg];rintro⟨_,u⟩;rw[if_pos u]at b;cases b
   ·rename_i a;simp only[a]at b;cases b
   ·rename_i a;simp only[a]at b;cases b
   ·rename_i a;simp only[a]at b;have s:isG own o.dst=false:=by
     split at b
     ·rename_i h;unfold isG;rw[h];simp
     ·cases b
    have i:=(zk7 (H:=e) (nx:=c) a s).trans hs.2;unfold okW at i;rw[a]at i;exact i
   ·rename_i a;simp only[a]at b;cases b
   ·rename_i a;simp only[a]at b;split at b<;>cases b
   ·rfl
 ·exact⟨l,p,fun e c=>.inr ⟨m,k,rfl,rfl⟩⟩
theorem z5n{own:List Nat}{ops:Array Oper}{o:Oper}{st:St}{d:D}{H:HM}{nx:Nat}(c:cls own o<=1)(hs:z16 P own ops o st d H nx):H=st.H/\nx=st.nx:=by
 unfold z16 at hs;rcases hs with ⟨j,hs⟩|⟨j,b,a,i⟩
 ·rcases hs with ⟨f,args,l,g,cap,e,_,⟨_,_,_,b,a⟩|⟨_,_,b,a⟩|⟨h,k,_⟩⟩|hs
  ·exact⟨b,a⟩
  ·exact⟨b,a⟩
  ·unfold cls at c;rw[e]at c;simp only[h,k,if_true,Z4,if_false]at c;omega
  ·exact opR_cls1 c hs.1
 ·exact⟨a,i⟩

theorem zuc{st:St}{dst:Option Nat}{d:D}{t:Nat}(h:dst≠some t):(st.put dst d).t t=st.t t:=by
 cases dst with
 |none=>rfl
 |some i=>simp only[St.put,updT];rw[if_neg (fun e=>h (by rw[e]))]
theorem put_H(st:St)(dst:Option Nat)(d:D):(st.put dst d).H=st.H:=by cases dst<;>rfl
theorem put_nx(st:St)(dst:Option Nat)(d:D):(st.put dst d).nx=st.nx:=by cases dst<;>rfl
theorem z3u(st:St)(o:Oper)(d:D)(H:HM)(nx:Nat):(st.next o d H nx).H=H:=by unfold St.next;rw[put_H];rfl
theorem z2q(st:St)(o:Oper)(d:D)(H:HM)(nx:Nat):(st.next o d H nx).nx=nx:=by unfold St.next;rw[put_nx];rfl
theorem zme{st:St}{o:Oper}{d:D}{H:HM}{nx t:Nat}(h:o.dst≠some t):(st.next o d H nx).t t=st.t t:=by unfold St.next;rw[zuc h];rfl

theorem next_comm{st:St}{x y:Oper}{dx dy:D}{H1 H2 H3:HM}{n1 n2 n3:Nat}(h:∀d,x.dst=some d->y.dst≠some d) :
  (st.next x dx H1 n1).next y dy H3 n3=(st.next y dy H2 n2).next x dx H3 n3:=by
 unfold St.next St.withH St.put;cases m:x.dst with
 |none=>cases l:y.dst<;>rfl
 |some i =>
  cases l:y.dst with
  |none=>rfl
  |some j =>
   have c:j≠i:=fun e=>h i m (by rw[l,e]);simp only[St.mk.injEq,and_true]
   funext k
   simp only[updT]
   by_cases b:k=j
   ·subst b;rw[if_pos rfl,if_neg c,if_pos rfl]
   ·rw[if_neg b]
    by_cases a:k=i
    ·rw[if_pos a,if_pos a]
    ·rw[if_neg a,if_neg a,if_neg b]

def zc3(own:List Nat)(o:Oper):Bool :=
 match o.op with
 | .load _ _=>z0s 3000000 own o.dst
 |_=>false
def zk9(own:List Nat)(o:Oper):Bool :=
 match o.op with
 | .call { callee:=.value _,.. }=>z0s 4000000 own o.dst&&(tcM own o.dst).isNone && !z0s 10000000 own o.dst
 | .call { callee:=.builtin .append,.. }=>true
 | .buildSlice .. => true
 |_=>false
theorem z75(st:St):zb7 st st.H st.nx:=⟨Za _,fun _=>⟨fun _ _ _ h=>h,fun h _ _ a=>⟨h,a⟩⟩⟩
theorem zc4(st:St){id0:Nat}{o o':HObj}(i:st.H id0=some o)(j:∀e a,o ≠ .box e a)(c:∀e a,o' ≠ .box e a):zb7 st (z0m st.H id0 (some o')) st.nx:=by
 refine⟨Za _,fun id=>⟨fun _ e a h=>?_,fun d e a h=>⟨d,?_⟩⟩⟩
 ·unfold z0m
  by_cases b:id=id0
  ·subst b;rw[i]at h;cases h;exact(j _ _ rfl).elim
  ·rw[if_neg b];exact h
 ·unfold z0m at h
  by_cases b:id=id0
  ·rw[if_pos b]at h;cases h;exact(c _ _ rfl).elim
  ·rw[if_neg b]at h;exact h
theorem zfb(st:St){o':HObj}(b:∀e a,o' ≠ .box e a):zb7 st (z0m st.H st.nx (some o')) (st.nx+1):=by
 refine⟨by omega,fun id=>⟨fun c e a h=>?_,fun c e a h=>?_⟩⟩
 ·unfold z0m;rw[if_neg (by omega)];exact h
 ·unfold z0m at h
  by_cases d:id=st.nx
  ·rw[if_pos d]at h;cases h;exact(b _ _ rfl).elim
  ·rw[if_neg d]at h;exact⟨by omega,h⟩
theorem zmf(st:St){H:HM}{nx id0:Nat}{o:HObj}(h:zb7 st H nx)(j:H id0=some o)(k:∀e c,o ≠ .box e c):zb7 st (z0m H id0 none) nx:=by
 refine⟨h.1,fun id=>⟨fun b e c a=>?_,fun b e c a=>?_⟩⟩
 ·have i:=(h.2 id).1 b e c a;unfold z0m
  by_cases d:id=id0
  ·subst d;rw[j]at i;cases i;exact(k _ _ rfl).elim
  ·rw[if_neg d];exact i
 ·unfold z0m at a
  by_cases d:id=id0
  ·rw[if_pos d]at a;cases a
  ·rw[if_neg d]at a;exact(h.2 id).2 b e c a
theorem zfc{st:St}{t:TypeId}{x y d:D}{H:HM}{nx:Nat}(h:z8z P st.H st.nx t x y=some (d,H,nx)):zb7 st H nx:=by
 unfold z8z at h;split at h
 ·split at h
  ·simp only[Z7]at h;obtain⟨⟨m,c⟩,_,h⟩:=h;simp only at h;split at h
   ·split at h
    ·simp only[Z0,Z2]at h;obtain⟨_,rfl,rfl⟩:=h;exact zfb st (by intro e a h;cases h)
    ·cases h
   ·split at h
    ·rename_i b;split at h
     ·simp only[Z0,Z2]at h;obtain⟨_,rfl,rfl⟩:=h;exact zc4 st b (by intro e a h;cases h) (by intro e a h;cases h)
     ·cases h
    ·cases h
   ·split at h
    ·simp only[Z0,Z2]at h;obtain⟨_,rfl,rfl⟩:=h;exact z75 st
    ·split at h
     ·simp only[Z3,Z2]at h;obtain⟨_,_,_,rfl,rfl⟩:=h;exact zfb st (by intro e a h;cases h)
     ·cases h
   ·cases h
  ·cases h
 ·cases h
theorem zud{st:St}{d k:D}{H i:HM}{nx b:Nat}(j:zb7 st H nx)(h:zks P (d,H,nx)=some (k,i,b)):zb7 st i b:=by
 unfold zks at h;split at h
 ·rename_i a;cases a;split at h
  ·rename_i c;split at h
   ·simp only[Z0,Z2]at h;obtain⟨_,rfl,rfl⟩:=h;exact zmf st j c (by intro e l h;cases h)
   ·cases h
  ·cases h
 ·rename_i a;cases a;simp only[Z0,Z2]at h;obtain⟨_,rfl,rfl⟩:=h;exact j
 ·cases h
theorem zz7{own:List Nat}{o:Oper}{st:St}{d:D}{H:HM}{nx:Nat}(b:zk9 own o=true)(h:opR P own o st=some (d,H,nx)):zb7 st H nx:=by
 unfold zk9 at b;split at b
 ·rename_i a;unfold opR at h;simp only[a]at h;cases h
 ·rename_i a;unfold opR at h;simp only[a]at h;split at h
  all_goals first
   |(simp only[reduceCtorEq]at *;done)
   |skip
  ·split at h
   ·split at h
    ·obtain⟨_,rfl,rfl⟩:=z1m h;exact z75 st
    ·split at h
     ·simp only[Z7]at h;obtain⟨⟨l,k,m⟩,i,j⟩:=h;exact zud (zfc i) j
     ·exact zfc h
   ·cases h
 ·rename_i a;unfold opR at h;simp only[a]at h;split at h
  ·split at h
   ·simp only[Z7]at h;obtain⟨c,_,h⟩:=h;split at h
    ·simp only[Z0,Z2]at h;obtain⟨_,rfl,rfl⟩:=h;exact zfb st (fun e c h=>by cases h)
    ·split at h
     ·simp only[Z0,Z2]at h;obtain⟨_,rfl,rfl⟩:=h;exact z75 st
     ·simp only[Z0,Z2]at h;obtain⟨_,rfl,rfl⟩:=h;exact z75 st
   ·cases h
  ·cases h
 ·cases b
theorem zh9{own:List Nat}{ops:Array Oper}{o:Oper}{st:St}{d:D}{H:HM}{nx:Nat}(a:zk9 own o=true)(hs:z16 P own ops o st d H nx):zb7 st H nx:=by
 unfold z16 at hs;rcases hs with ⟨j,hs⟩|⟨j,h,c,i⟩
 ·rcases hs with ⟨f,args,p,g,cap,e,_,⟨_,_,_,h,c⟩|⟨_,_,h,c⟩|⟨_,_,_,b⟩⟩|hs
  ·subst h;subst c;exact z75 st
  ·subst h;subst c;exact z75 st
  ·rcases b with ⟨_,⟨_,b⟩|⟨l,_⟩⟩|⟨k,q,m,_⟩
   ·exact b
   ·unfold zk9 at a;rw[e]at a;simp[l]at a
   ·unfold zk9 at a;rw[e]at a;simp[m]at a
  ·exact zz7 a hs.1
 ·subst c;subst i;exact z75 st
theorem zz8{st:St}{H:HM}{nx:Nat}{t:TypeId}{p d:D}(c:zb7 st H nx):(zdf P st.H st.nx t p=some d->zdf P H nx t p=some d)/\(zdf P H nx t p=some d->zdf P st.H st.nx t p=some d):=by
 cases p<;>first|(constructor<;>intro h<;>exact h)|skip
 rename_i id j;simp only[zdf,z5y];constructor
 ·intro h;split at h
  ·rename_i a;rw[if_pos (Zp a c.1)];split at h
   ·rename_i b;rw[(c.2 id).1 a _ _ b];exact h
   ·cases h
  ·cases h
 ·intro h;split at h
  ·rename_i a;split at h
   ·rename_i b;obtain⟨e,i⟩:=(c.2 id).2 a _ _ b;rw[if_pos e,i];exact h
   ·cases h
  ·cases h
theorem zmg{own:List Nat}{o:Oper}(b:zc3 own o=true):∃t p,o.op=.load t p/\∀st:St,opR P own o st=st.keep (zdf P st.H st.nx t (st.ev p)):=by
 unfold zc3 at b;split at b
 ·rename_i t p a;refine⟨t,p,a,fun st=>?_⟩;unfold opR;simp only[a,zed,b,if_true]
 ·cases b
theorem isG_B{own:List Nat}{o:Oper}(a:zc3 own o=true):isG own o.dst=false:=by
 unfold zc3 at a;split at a
 ·unfold isG;rw[a];simp
 ·cases a
theorem zgl{own:List Nat}{o:Oper}(a:zc3 own o=true):cls own o=1:=by
 unfold zc3 at a;split at a
 ·rename_i b;unfold cls;rw[b]
 ·cases a
theorem zha{own:List Nat}{ops:Array Oper}{o:Oper}{st:St}{d:D}{H:HM}{nx:Nat}(k:zc3 own o=true)(s:zb7 st H nx) :
  (z16 P own ops o st d st.H st.nx->z16 P own ops o (st.withH H nx) d H nx)/\(z16 P own ops o (st.withH H nx) d H nx->z16 P own ops o st d st.H st.nx):=by
 obtain⟨t,p,c,e⟩:=zmg (P:=P) k;obtain⟨u,v⟩:=zz8 (P:=P) (t:=t) (p:=st.ev p) (d:=d) s;have m:opR P own o (st.withH H nx)=(zdf P H nx t (st.ev p)).map fun d=>(d,H,nx):=by rw[e,z2p];rfl
 have q:opR P own o st=(zdf P st.H st.nx t (st.ev p)).map fun d=>(d,st.H,st.nx):=by rw[e];rfl
 constructor
 ·intro hs;unfold z16 at *;rcases hs with ⟨i,hs⟩|⟨i,h,_,_⟩
  ·refine .inl ⟨i,.inr ?_⟩;rcases hs with ⟨f,args,l,g,cap,a,_⟩|hs
   ·rw[c]at a;cases a
   ·rw[q,Z3]at hs;obtain⟨⟨r,h,j⟩,b⟩:=hs;simp only[Z2,and_true]at j;subst j;rw[m,u h];exact⟨rfl,by rw[zam c (isG_B k)];exact b⟩
  ·exact .inr ⟨i,h,rfl,rfl⟩
 ·intro hs;unfold z16 at *;rcases hs with ⟨i,hs⟩|⟨i,h,_,_⟩
  ·refine .inl ⟨i,.inr ?_⟩;rcases hs with ⟨f,args,l,g,cap,a,_⟩|hs
   ·rw[c]at a;cases a
   ·rw[m,Z3]at hs;obtain⟨⟨r,h,j⟩,b⟩:=hs;simp only[Z2,and_true]at j;subst j;rw[q,v h];exact⟨rfl,by rw[zam c (isG_B k)]at b;exact b⟩
  ·exact .inr ⟨i,h,rfl,rfl⟩
def newB(own:List Nat)(o:Oper):Bool :=
 match o.op with
 | .alloc _=>true
 | .call { callee:=.value _,.. }=>z0s 4000000 own o.dst&&(tcM own o.dst).isNone&&z0s 10000000 own o.dst
 |_=>false
theorem zz9{own:List Nat}{ops:Array Oper}{o:Oper}{st:St}{d:D}{H:HM}{nx:Nat}(j:newB own o=true)(hs:z16 P own ops o st d H nx):zfa st H nx:=by
 have p:zfa st st.H st.nx:=⟨Za _,fun _ _=>rfl⟩
 unfold newB at j;split at j
 ·rename_i e b;unfold z16 at hs;rcases hs with ⟨r,⟨f,args,m,g,cap,a,_⟩|hs⟩|⟨r,l,h,q⟩
  ·rw[b]at a;cases a
  ·unfold opR at hs;simp only[b,Z3,Z2]at hs;obtain⟨⟨x,_,_,rfl,rfl⟩,_⟩:=hs;refine⟨Nat.le_succ _,fun id v=>?_⟩;unfold z0m;rw[if_neg (by omega)]
  ·subst h;subst q;exact p
 ·rename_i c args m b;simp only[Z1,Option.isNone_iff_eq_none]at j;unfold z16 at hs;rcases hs with ⟨r,hs⟩|⟨r,l,h,q⟩
  ·rcases hs with ⟨f,args,m,g,cap,a,_,⟨_,_,_,l,h⟩|⟨_,_,l,h⟩|⟨_,_,_,i⟩⟩|hs
   ·subst l;subst h;exact p
   ·subst l;subst h;exact p
   ·rcases i with ⟨_,⟨s,_⟩|⟨_,i⟩⟩|⟨k,w,u,_⟩
    ·rename_i t _ _ _ _;have:=j.2
     first|(rw[s]at this;cases this)|(rw[this]at s;cases s)
    ·exact i
    ·rw[j.1.2]at u;cases u
   ·have:=hs.1;unfold opR at this;rw[b]at this;cases this
  ·subst h;subst q;exact p
 ·cases j
theorem zue{st:St}{H:HM}{nx:Nat}{t:TypeId}{p d:D}(c:zfa st H nx)(h:zdf P st.H st.nx t p=some d):zdf P H nx t p=some d:=by
 cases p<;>first|exact h|skip
 rename_i id e;simp only[zdf,z5y]at h⊢;split at h
 ·rename_i a;rw[if_pos (Zp a c.1)];split at h
  ·rename_i b;rw[c.2 id a,b];exact h
  ·cases h
 ·cases h
def fcall(own:List Nat)(o:Oper):Bool :=
 match o.op with
 | .call { callee:=.value _,.. }=>z0s 11000000 own o.dst && !z0s 5000000 own o.dst && !z0s 4000000 own o.dst
 |_=>false
theorem fcall_cls{own:List Nat}{o:Oper}(a:fcall own o=true):cls own o=1:=by
 unfold fcall at a;split at a
 ·rename_i b;simp only[Z1,Z6]at a;unfold cls;rw[b];simp only[a.1.2,a.2,Z4,if_false]
 ·cases a
theorem zuf{own:List Nat}{ops:Array Oper}{o:Oper}{st:St}{d:D}{H:HM}{nx:Nat}(a:fcall own o=true)(j:zfa st H nx)(hs:z16 P own ops o st d st.H st.nx):z16 P own ops o (st.withH H nx) d H nx:=by
 unfold fcall at a;split at a
 ·rename_i c k s e;simp only[Z1,Z6]at a;unfold z16 at *;rcases hs with ⟨l,hs⟩|⟨l,u,_,_⟩
  ·refine .inl ⟨l,?_⟩;rcases hs with ⟨f,args,p,g,cap,m,v,⟨i,w,h,_,_⟩|⟨i,_⟩|⟨_,r,_⟩⟩|hs
   ·refine .inl ⟨f,args,p,g,cap,m,by rw[z2p];exact v,.inl ⟨i,w,?_,rfl,rfl⟩⟩;rw[z2p];exact⟨h.2 a.1.1 H nx j,fun _ t x q=>h.2 a.1.1 t x ⟨Nat.le_trans j.1 q.1,fun id b=>(q.2 id (Zp b j.1)).trans (j.2 id b)⟩⟩
   ·rw[a.1.2]at i;cases i
   ·rw[a.2]at r;cases r
   ·have:=hs.1;unfold opR at this;rw[e]at this;cases this
  ·exact .inr ⟨l,u,rfl,rfl⟩
 ·cases a
theorem zrn{own:List Nat}{ops:Array Oper}{o:Oper}{st:St}{d:D}{H:HM}{nx:Nat}(k:zc3 own o=true)(q:zfa st H nx)(hs:z16 P own ops o st d st.H st.nx):z16 P own ops o (st.withH H nx) d H nx:=by
 obtain⟨t,p,c,b⟩:=zmg (P:=P) k;have l:opR P own o (st.withH H nx)=(zdf P H nx t (st.ev p)).map fun d=>(d,H,nx):=by rw[b,z2p];rfl
 have m:opR P own o st=(zdf P st.H st.nx t (st.ev p)).map fun d=>(d,st.H,st.nx):=by rw[b];rfl
 unfold z16 at *;rcases hs with ⟨h,hs⟩|⟨h,e,_,_⟩
 ·refine .inl ⟨h,.inr ?_⟩;rcases hs with ⟨f,args,r,g,cap,a,_⟩|hs
  ·rw[c]at a;cases a
  ·rw[m,Z3]at hs;obtain⟨⟨s,e,j⟩,i⟩:=hs;simp only[Z2,and_true]at j;subst j;rw[l,zue q e];exact⟨rfl,by rw[zam c (isG_B k)];exact i⟩
 ·exact .inr ⟨h,e,rfl,rfl⟩
def zro(own:List Nat)(o:Oper):Bool :=
 match o.op with
 | .load .. => isG own o.dst
 | .indexAddr .. => isG own o.dst
 |_=>false
theorem zza{own:List Nat}{o:Oper}(b:zro own o=true):cls own o=1:=by
 unfold zro at b;split at b
 ·rename_i a;unfold cls;rw[a]
 ·rename_i a;simp only[isG,Z1,Z6]at b;unfold cls;rw[a];simp only[b.1.1.2,Z4,if_false]
 ·cases b
theorem okG_le{own:List Nat}{dst:Option Nat}{n m:Nat}{d:D}(a:n<=m)(h:okG own dst n d=true):okG own dst m d=true:=by
 unfold okG at *;split
 ·rename_i b;rw[if_pos b]at h;cases d<;>first|(cases h;done)|(exact decide_eq_true (Zp (of_decide_eq_true h) a))
 ·rfl
theorem zrp{own:List Nat}{ops:Array Oper}{o:Oper}{st:St}{d:D}{H:HM}{nx:Nat}(u:zro own o=true)(v:zfa st H nx)(j:z16 P own ops o st d st.H st.nx):z16 P own ops o (st.withH H nx) d H nx:=by
 unfold zro at u;split at u
 ·rename_i t p h;unfold z16 at *;rcases j with ⟨s,j⟩|⟨s,q,_,_⟩
  ·refine .inl ⟨s,.inr ?_⟩;rcases j with ⟨f,args,A,g,cap,c,_⟩|⟨j,b⟩
   ·rw[h]at c;cases c
   ·have r:=u;simp only[isG,Z1,Z6]at r;have e:∀st:St,opR P own o st=st.keep (z5y P st.H t (st.ev p)):=fun st=>by
     unfold opR;rw[h];simp only[zed,r.1.1.2,r.1.2,Z4,if_false]
    rw[e]at j⊢;obtain⟨q,_,_⟩:=z1m j;rw[z1w,z2p];unfold okW at b⊢;rw[h]at b⊢;simp only[Z1]at b⊢;obtain⟨m,a⟩:=b;have w:z5y P H t (st.ev p)=some d:=by
     rw[<-q];unfold okG at a;rw[if_pos u]at a;split at a
     ·rename_i id z l;rw[l];have:=v.2 id (of_decide_eq_true a);simp only[z5y,this]
     ·rename_i id z k l;rw[l];have:=v.2 id (of_decide_eq_true a);simp only[z5y,this]
     ·rename_i l;rw[l];rfl
     ·cases a
    refine⟨by show ZA _ (z5y P H t (st.ev p))=_;rw[w];rfl,m,?_⟩;rw[z2p];have y:st.nx<=nx:=v.1;exact okG_le y a
  ·exact .inr ⟨s,q,rfl,rfl⟩
 ·rename_i t x i h;unfold z16 at *;rcases j with ⟨s,j⟩|⟨s,q,_,_⟩
  ·refine .inl ⟨s,.inr ?_⟩;rcases j with ⟨f,args,A,g,cap,c,_⟩|⟨j,b⟩
   ·rw[h]at c;cases c
   ·have r:=u;simp only[isG,Z1,Z6]at r;have e:∀st:St,opR P own o st=st.keep (z11 P st.H t (st.ev x) (st.ev i)):=fun st=>by
     unfold opR;rw[h];simp only[hmG,r.1.1.2,r.1.2,Z4,if_false]
    rw[e]at j⊢;obtain⟨q,_,_⟩:=z1m j;rw[z1w,z2p];unfold okW at b⊢;rw[h]at b⊢;simp only[Z1]at b⊢;obtain⟨m,a⟩:=b;have w:z11 P H t (st.ev x) (st.ev i)=some d:=by
     rw[<-q];unfold okG at a;rw[if_pos u]at a;split at a
     ·rename_i l;rw[l];unfold z11;rfl
     ·rename_i l;rw[l];unfold z11;rfl
     ·rename_i id k l;rw[l];have:=v.2 id (of_decide_eq_true a);unfold z11;cases z3g P t with
      |none=>rfl
      |some e=>cases st.ev i<;>first|rfl|simp only[this]
     ·cases a
    refine⟨by show ZA _ (z11 P H t (st.ev x) (st.ev i))=_;rw[w];rfl,m,?_⟩;rw[z2p];exact okG_le v.1 a
  ·exact .inr ⟨s,q,rfl,rfl⟩
 ·cases u
def zfd(own:List Nat)(o:Oper):Bool :=
 match o.op with
 | .load .. => z0s 6000000 own o.dst && !z0s 3000000 own o.dst
 | .indexAddr .. => z0s 6000000 own o.dst && !z0s 3000000 own o.dst
 |_=>false
def zrq(own:List Nat)(o:Oper):Bool :=
 match o.op with
 | .buildSlice .. => z0s 7000000 own o.dst&&zlk own o.dst
 | .alloc _=>z0s 7000000 own o.dst
 | .call { callee:=.builtin .append,.. }=>z0s 7000000 own o.dst && !z0s 1000000 own o.dst
 |_=>false
theorem zd7 {H:HM}{i j:Nat}{o:Option HObj}(h:¬j=i):z0m H i o j=H j:=if_neg h
def zug(B:Nat)(H a:HM):Prop:=∀id,id<B->a id=H id
theorem cutB_same{B:Nat}{H b:HM}(h:zug B H b):cutB B b=cutB B H:=by
 funext id
 unfold cutB;split
 ·rename_i a;exact h id a
 ·rfl
theorem zmh{own:List Nat}{o:Oper}(b:zfd own o=true):cls own o=1:=by
 unfold zfd at b;split at b
 ·rename_i a;unfold cls;rw[a]
 ·rename_i a;simp only[Z1,Z6]at b;unfold cls;rw[a];simp only[b.2,Z4,if_false]
 ·cases b
theorem zzb{own:List Nat}{o:Oper}(b:zfd own o=true){st:St}{H:HM}{nx:Nat}(h:zug (z3b own) st.H H)(d:D) :
  (opR P own o st=some (d,st.H,st.nx) ↔ opR P own o (st.withH H nx)=some (d,H,nx)):=by
 have k:=cutB_same h;unfold zfd at b;split at b
 ·rename_i t p j;simp only[Z1,Z6]at b;unfold opR;simp only[j,zed,b.1,b.2,Z4,if_false,if_true,z2p];show (st.keep _=_) ↔ ((st.withH H nx).keep (z5y P (cutB (z3b own) H) t (st.ev p))=_);rw[k];simp only[St.keep,Z3,Z2];constructor
  ·rintro⟨a,c,e,_⟩;exact⟨a,c,e,by simp[St.withH]⟩
  ·rintro⟨a,c,e,_⟩;exact⟨a,c,e,by simp⟩
 ·rename_i t x i j;simp only[Z1,Z6]at b;unfold opR;simp only[j,hmG,b.1,b.2,Z4,if_false,if_true,z2p];show (st.keep _=_) ↔ ((st.withH H nx).keep (z11 P (cutB (z3b own) H) t (st.ev x) (st.ev i))=_);rw[k];simp only[St.keep,Z3,Z2];constructor
  ·rintro⟨a,c,e,_⟩;exact⟨a,c,e,by simp[St.withH]⟩
  ·rintro⟨a,c,e,_⟩;exact⟨a,c,e,by simp⟩
 ·cases b
theorem zhb{own:List Nat}{ops:Array Oper}{o:Oper}{st:St}{d:D}{H:HM}{nx:Nat}(i:zfd own o=true)(h:zug (z3b own) st.H H) :
  z16 P own ops o st d st.H st.nx ↔ z16 P own ops o (st.withH H nx) d H nx:=by
 have k:okW own o (st.withH H nx)=okW own o st:=by
  unfold zfd at i;split at i
  ·rename_i a;exact zam a
  ·rename_i a;exact zk7 a (by simp_all [isG])
  ·cases i
 have j:∀f args b,o.op ≠ .call { callee:=.value f,args:=args,argTypes:=b }:=fun f args b e=>by unfold zfd at i;rw[e]at i;cases i
 have m:=zzb (P:=P) i (nx:=nx) h d;unfold z16;rw[zk8];constructor
 ·rintro(⟨c,⟨f,args,b,g,cap,a,_⟩|hs⟩|⟨c,l,_,_⟩)
  ·exact(j _ _ _ a).elim
  ·exact .inl ⟨c,.inr ⟨m.1 hs.1,by rw[k];exact hs.2⟩⟩
  ·exact .inr ⟨c,l,rfl,rfl⟩
 ·rintro(⟨c,⟨f,args,b,g,cap,a,_⟩|hs⟩|⟨c,l,_,_⟩)
  ·exact(j _ _ _ a).elim
  ·exact .inl ⟨c,.inr ⟨m.2 hs.1,by rw[<-k];exact hs.2⟩⟩
  ·exact .inr ⟨c,l,rfl,rfl⟩
theorem zfe{B:Nat}{H:HM}{nx:Nat}{t:TypeId}{x y d:D}{c:HM}{b:Nat}(h:z8z P H nx t x y=some (d,c,b))(l:∀id n,x=.osl id n->B<=id)(i:B<=nx):zug B H c/\∀id n,d=.osl id n->B<=id:=by
 unfold z8z at h;split at h
 ·split at h
  ·simp only[Z7]at h;obtain⟨⟨m,j⟩,_,h⟩:=h;simp only at h;split at h
   ·split at h
    ·simp only[Z0,Z2]at h;obtain⟨rfl,rfl,_⟩:=h;exact⟨fun id a=>zd7 (by omega),fun id n e=>by cases e;exact i⟩
    ·cases h
   ·rename_i o p;have k:=l _ _ rfl;split at h
    ·split at h
     ·simp only[Z0,Z2]at h;obtain⟨rfl,rfl,_⟩:=h;exact⟨fun id a=>zd7 (by omega),fun id n e=>by cases e;exact k⟩
     ·cases h
    ·cases h
   ·split at h
    ·simp only[Z0,Z2]at h;obtain⟨rfl,rfl,_⟩:=h;exact⟨fun id a=>rfl,fun id n e=>by cases e⟩
    ·split at h
     ·simp only[Z3,Z2]at h;obtain⟨_,_,rfl,rfl,_⟩:=h;exact⟨fun id a=>zd7 (by omega),fun id n e=>by cases e;exact i⟩
     ·cases h
   ·cases h
  ·cases h
 ·cases h
theorem zuh{B:Nat}{d j:D}{H i:HM}{nx c:Nat}(h:zks P (d,H,nx)=some (j,i,c))(k:∀id n,d=.osl id n->B<=id):zug B H i:=by
 unfold zks at h;split at h
 ·rename_i id n m l e;simp only[Z2]at e;obtain⟨rfl,rfl,rfl⟩:=e;have o:=k _ _ rfl;split at h
  ·split at h
   ·simp only[Z0,Z2]at h;obtain⟨_,rfl,_⟩:=h;exact fun id b=>zd7 (by omega)
   ·cases h
  ·cases h
 ·rename_i a;simp only[Z2]at a;obtain⟨rfl,rfl,rfl⟩:=a;simp only[Z0,Z2]at h;obtain⟨_,rfl,_⟩:=h;exact fun id b=>rfl
 ·cases h
theorem zhc{own:List Nat}{ops:Array Oper}{o:Oper}{st:St}{d:D}{H:HM}{nx:Nat}(h:zrq own o=true)(b:z16 P own ops o st d H nx):zug (z3b own) st.H H:=by
 have t:zug (z3b own) st.H st.H:=fun _ _=>rfl;unfold z16 at b;rcases b with ⟨u,⟨f,args,v,g,cap,c,_⟩|⟨b,a⟩⟩|⟨u,l,k,z⟩
 ·unfold zrq at h;rw[c]at h;cases h
 ·unfold zrq at h;unfold okW at a;unfold opR at b;split at h
  ·rename_i c;simp only[Z1]at h;simp only[c,h.1,h.2,and_self,if_true,decide_eq_true_eq]at a b;split at b
   ·split at b
    ·simp only[Z7]at b;obtain⟨x,_,b⟩:=b;simp only[Z0,Z2]at b;obtain⟨_,rfl,_⟩:=b;exact fun id i=>zd7 (by omega)
    ·cases b
   ·cases b
  ·rename_i c;simp only[c,h,if_true,decide_eq_true_eq,Z3,Z2]at a b;obtain⟨B,_,_,rfl,_⟩:=b;exact fun id i=>zd7 (by omega)
  ·rename_i c;simp only[Z1,Z6]at h;simp only[c,h.1,if_true]at a b;split at b
   all_goals first
    |(simp only[reduceCtorEq]at *;done)
    |skip
   ·rename_i j _;split at b
    ·simp only[h.2,Z4,if_false]at b;simp only[j]at a;have p:∀id n,st.ev _=.osl id n->z3b own<=id:=fun id n e=>by
      rw[e]at a;simp only[decide_eq_true_eq]at a;exact a.1
     have m:z3b own<=st.nx:=by
      split at a
      ·simp only[decide_eq_true_eq]at a;exact a.2
      ·simp only[decide_eq_true_eq]at a;exact a
     split at b
     ·simp only[Z7]at b;obtain⟨⟨y,w,A⟩,l,k⟩:=b;obtain⟨q,r⟩:=zfe l p m;have s:=zuh k r;exact fun id i=>(s id i).trans (q id i)
     ·exact(zfe b p m).1
    ·cases b
  ·cases h
 ·subst k;exact t
def touch(own:List Nat)(o:Oper):Option Nat :=
 match o.op with
 | .store _ p _=>(zrm p).bind fun i=>ze8 i own
 | .load _ _=>if z0s 3000000 own o.dst=true \/ z0s 6000000 own o.dst=true \/ z0s 12000000 own o.dst=true then none else o.dst.bind fun i=>ze8 i own
 | .indexAddr _ _ _=>if z0s 3000000 own o.dst=true \/ z0s 6000000 own o.dst=true \/ z0s 12000000 own o.dst=true then none else o.dst.bind fun i=>ze8 i own
 | .call { callee:=.value _,.. }=>if z0s 5000000 own o.dst=true then none else tcM own o.dst
 |_=>none
def zhr(own:List Nat)(o:Oper):Bool :=
 match o.op with
 | .call { callee:=.value _,.. } => !z0s 5000000 own o.dst&&(tcM own o.dst).isSome
 |_=>false
def newW(own:List Nat)(o:Oper):Bool :=
 match o.op with
 | .alloc _=>z0s 7000000 own o.dst
 |_=>false
theorem z8t{own:List Nat}{ops:Array Oper}{o:Oper}{st:St}{d:D}{H:HM}{nx:Nat}(m:zhr own o=true)(h:z16 P own ops o st d H nx) :
  (H=st.H/\nx=st.nx/\∀a c,z16 P own ops o (st.withH a c) d a c) \/
  ∃k r,tcM own o.dst=some (k+900000)/\k<z3b own/\z3b own<=st.nx/\nx=st.nx/\H=z0m st.H k r/\∀a c,z3b own<=c->a k=st.H k->z16 P own ops o (st.withH a c) d (z0m a k r) c:=by
 unfold zhr at m;split at m
 ·rename_i R t C q;simp only[Z1,Z6]at m;obtain⟨F,b⟩:=m;unfold z16 at h;rcases h with ⟨x,⟨f,args,z,g,cap,y,J,⟨_,i,_⟩|⟨s,_⟩|⟨s,L,I,w⟩⟩|⟨h,N⟩⟩|⟨x,u,j,E⟩
  ·rw[i]at b;cases b
  ·rw[F]at s;cases s
  ·rcases w with ⟨i,_⟩|⟨k,r,i,B,v,M,G,e⟩
   ·rw[i]at b;cases b
   ·refine .inr ⟨k,r,i,B,v,M,G,fun a c p l=>?_⟩;refine .inl ⟨x,.inl ⟨f,args,z,g,cap,y,by rw[z2p];exact J,.inr (.inr ⟨s,L,?_,.inr ⟨k,r,i,B,p,rfl,rfl,fun A O u j=>?_⟩⟩)⟩⟩
    ·rw[z2p];exact e a c p l
    ·rw[z2p];have j:A k=a k:=j;exact e A O u (j.trans l)
  ·unfold opR at h;rw[q]at h;cases h
  ·exact .inl ⟨j,E,fun a c=>.inr ⟨x,u,rfl,rfl⟩⟩
 ·cases m
theorem zmi{own:List Nat}{ops:Array Oper}{o:Oper}{st:St}{d:D}{H:HM}{nx:Nat}(k:newW own o=true)(i:z16 P own ops o st d H nx) :
  (H=st.H/\nx=st.nx/\∀b m,z16 P own ops o (st.withH b m) d b m) \/
  ∃q,z3b own<=st.nx/\H=z0m st.H st.nx (some q)/\nx=st.nx+1/\∀b,z16 P own ops o (st.withH b st.nx) d (z0m b st.nx (some q)) (st.nx+1):=by
 unfold newW at k;split at k
 ·rename_i e a;unfold z16 at i;rcases i with ⟨l,⟨f,args,w,g,cap,h,_⟩|⟨i,c⟩⟩|⟨l,s,j,t⟩
  ·rw[a]at h;cases h
  ·refine .inr ?_;have u:∀b,okW own o (st.withH b st.nx)=true:=fun b=>by
    rw[<-c];unfold okW;rw[a];rfl
   unfold okW at c;rw[a]at c;simp only[k,if_true,decide_eq_true_eq]at c;have r:∀st:St,opR P own o st=(z4t P e).map fun p=>(.ptr st.nx 0,z0m st.H st.nx (some (.box e p)),st.nx+1):=fun st=>by unfold opR;rw[a]
   rw[r,Z3]at i;obtain⟨p,v,j⟩:=i;simp only[Z2]at j;obtain⟨rfl,rfl,rfl⟩:=j;refine⟨.box e p,c,rfl,rfl,fun b=>.inl ⟨l,.inr ⟨?_,u b⟩⟩⟩;rw[r,v];rfl
  ·exact .inl ⟨j,t,fun b m=>.inr ⟨l,s,rfl,rfl⟩⟩
 ·cases k
theorem zrr{H:HM}{i j:Nat}{a b:Option HObj}(h:i≠j):z0m (z0m H i a) j b=z0m (z0m H j b) i a:=by
 funext k
 unfold z0m
 by_cases d:k=j
 ·subst d;rw[if_pos rfl,if_neg (fun e=>h e.symm),if_pos rfl]
 ·rw[if_neg d]
  by_cases c:k=i
  ·rw[if_pos c,if_pos c]
  ·rw[if_neg c,if_neg c,if_neg d]
theorem swap_tn{own:List Nat}{ops:Array Oper}{x y:Oper}{st:St}{dx dy:D}{H1 H2:HM}{n1 n2:Nat}(c:zhr own x=true)(e:newW own y=true)(j:z16 P own ops x st dx H1 n1)(l:z16 P own ops y (st.withH H1 n1) dy H2 n2) :
  ∃i m,z16 P own ops y st dy i m/\z16 P own ops x (st.withH i m) dx H2 n2:=by
 rcases z8t c j with ⟨rfl,rfl,a⟩|⟨k,p,_,o,b,rfl,rfl,d⟩
 ·exact⟨H2,n2,l,a H2 n2⟩
 ·rcases zmi e l with ⟨rfl,rfl,a⟩|⟨q,b,rfl,rfl,h⟩
  ·exact⟨st.H,st.nx,a st.H st.nx,j⟩
  ·have b:z3b own<=st.nx:=b;refine⟨z0m st.H st.nx (some q),st.nx+1,h st.H,?_⟩;have:=d (z0m st.H st.nx (some q)) (st.nx+1) (by omega) (by unfold z0m;rw[if_neg (by omega)]);rw[zrr (by omega)]at this;exact this
theorem swap_nt{own:List Nat}{ops:Array Oper}{x y:Oper}{st:St}{dx dy:D}{H1 H2:HM}{n1 n2:Nat}(d:newW own x=true)(h:zhr own y=true)(l:z16 P own ops x st dx H1 n1)(m:z16 P own ops y (st.withH H1 n1) dy H2 n2) :
  ∃j o,z16 P own ops y st dy j o/\z16 P own ops x (st.withH j o) dx H2 n2:=by
 rcases zmi d l with ⟨rfl,rfl,a⟩|⟨q,c,rfl,rfl,e⟩
 ·exact⟨H2,n2,m,a H2 n2⟩
 ·rcases z8t h m with ⟨rfl,rfl,a⟩|⟨k,p,_,s,_,rfl,rfl,i⟩
  ·exact⟨st.H,st.nx,a st.H st.nx,l⟩
  ·have b:k≠st.nx:=by omega
   have r:=i st.H st.nx c (by show st.H k=z0m st.H st.nx (some q) k;unfold z0m;rw[if_neg b]);refine⟨z0m st.H k p,st.nx,r,?_⟩;have:=e (z0m st.H k p);rw[zrr b]at this;exact this
theorem zrs{H b:HM}{t:TypeId}{d:D}{id:Nat}(a:objD d=some id)(h:b id=H id):z5y P b t d=z5y P H t d:=by
 cases d<;>first|(simp[objD]at a;done)|skip
 all_goals (simp only[objD,Z0]at a;subst a;unfold z5y;try simp only[h])
theorem loadD_ptr{H a:HM}{t:TypeId}{id off:Nat}(h:a id=H id):z5y P a t (.ptr id off)=z5y P H t (.ptr id off):=zrs rfl h
theorem zld{H b:HM}{t:TypeId}{d i:D}{id:Nat}(a:objD d=some id)(h:b id=H id):z11 P b t d i=z11 P H t d i:=by
 cases d<;>first|(simp[objD]at a;done)|skip
 all_goals (simp only[objD,Z0]at a;subst a;cases i<;>(unfold z11;try simp only[h]))
theorem zzc{H H1:HM}{t:TypeId}{d v:D}{id:Nat}(i:objD d=some id)(h:z7w P H t d v=some H1):(∀j,j≠id->H1 j=H j)/\∀a,a id=H id->z7w P a t d v=some fun j=>if j=id then H1 id else a j:=by
 unfold z7w at h;split at h
 ·rename_i s p;split at h
  ·rename_i o;have c:∀(q:Option HObj) (a:HM),z0m a id q=fun j=>if j=id then z0m H id q id else a j:=fun q a=>by
    funext j
    unfold z0m
    by_cases b:j=id
    ·rw[if_pos b,if_pos b,if_pos rfl]
    ·rw[if_neg b,if_neg b]
   cases d<;>first|(simp[objD]at i;done)|(cases h;done)|skip
   all_goals
    simp only[objD,Z0]at i;subst i;simp only at h;split at h
    ·rename_i r l;split at h
     ·rename_i k;simp only[Z0]at h;subst h;refine⟨fun j m=>by unfold z0m;rw[if_neg m],fun a e=>?_⟩;unfold z7w;simp only[p,e,l,if_pos o,if_pos k,Z0];exact c _ a
     ·cases h
    ·cases h
  ·cases h
 ·cases h
theorem zka{own:List Nat}{ops:Array Oper}{o:Oper}{st:St}{d:D}{H:HM}{nx a:Nat}(s:touch own o=some a)(w:z16 P own ops o st d H nx) :
  (H=st.H/\nx=st.nx/\∀c r,z16 P own ops o (st.withH c r) d c r) \/
  ∃id,id+900000=a/\nx=st.nx/\(∀j,j≠id->H j=st.H j)/\∀c r,st.nx<=r->c id=st.H id->z16 P own ops o (st.withH c r) d (fun j=>if j=id then H id else c j) r:=by
 unfold touch at s;split at s
 ·rename_i t p v l;simp only[Z7]at s;obtain⟨i,I,s⟩:=s;unfold z16 at w;rcases w with ⟨A,⟨f,args,E,g,cap,m,_⟩|⟨w,b⟩⟩|⟨A,z,C,F⟩
  ·rw[l]at m;cases m
  ·refine .inr ?_;have J:∀c r,okW own o (st.withH c r)=true:=fun c r=>by
    rw[<-b];unfold okW;rw[l];rfl
   unfold okW at b;rw[l]at b;simp only[okT,I,s]at b;split at b
   ·rename_i id G;rw[decide_eq_true_eq]at b;have e:∀st:St,opR P own o st=(z7w P st.H t (st.ev p) (st.ev v)).map fun x=>(.any,x,st.nx):=fun st=>by unfold opR;rw[l]
    rw[e,Z3]at w;obtain⟨H1,z,C⟩:=w;simp only[Z2]at C;obtain⟨rfl,rfl,rfl⟩:=C;obtain⟨O,R⟩:=zzc G z;refine⟨id,b,rfl,O,fun c r _ u=>.inl ⟨A,.inr ⟨?_,J c r⟩⟩⟩;rw[e];rw[z2p];show (z7w P c t (st.ev p) (st.ev v)).map _=_;rw[R c u];rfl
   ·cases b
  ·exact .inl ⟨C,F,fun c r=>.inr ⟨A,z,rfl,rfl⟩⟩
 ·rename_i t p l;split at s
  ·cases s
  rename_i y;rw[not_or,not_or]at y;have M:isG own o.dst=false:=by unfold isG;simp[y.2.2]
  replace y:¬z0s 3000000 own o.dst=true/\¬z0s 6000000 own o.dst=true:=⟨y.1,y.2.1⟩
  simp only[Z7]at s;obtain⟨i,I,s⟩:=s;unfold z16 at w;rcases w with ⟨A,⟨f,args,E,g,cap,m,_⟩|⟨w,b⟩⟩|⟨A,z,C,F⟩
  ·rw[l]at m;cases m
  ·refine .inr ?_;have J:∀c r,okW own o (st.withH c r)=true:=fun c r=>by
    rw[<-b];exact zam l M
   unfold okW at b;rw[l]at b;rw[Z1,Z1]at b;replace b:=b.1.1;simp only[okT,I,s]at b;split at b
   ·rename_i id G;rw[decide_eq_true_eq]at b;have e:∀st:St,opR P own o st=st.keep (z5y P st.H t (st.ev p)):=fun st=>by
     unfold opR;rw[l];simp only[zed,if_neg y.1,if_neg y.2]
    rw[e]at w;obtain⟨z,rfl,rfl⟩:=z1m w;refine⟨id,b,rfl,fun _ _=>rfl,fun c r _ u=>?_⟩;have L:(fun j=>if j=id then st.H id else c j)=c:=by
     funext j
     by_cases B:j=id
     ·rw[if_pos B,B,u]
     ·rw[if_neg B]
    rw[L];refine .inl ⟨A,.inr ⟨?_,J c r⟩⟩;rw[e,z1w,z2p];show (z5y P c t (st.ev p)).map _=_;rw[zrs G u,z];rfl
   ·cases b
  ·exact .inl ⟨C,F,fun c r=>.inr ⟨A,z,rfl,rfl⟩⟩
 ·rename_i t p q l;split at s
  ·cases s
  rename_i y;rw[not_or,not_or]at y;have M:isG own o.dst=false:=by unfold isG;simp[y.2.2]
  replace y:¬z0s 3000000 own o.dst=true/\¬z0s 6000000 own o.dst=true:=⟨y.1,y.2.1⟩
  simp only[Z7]at s;obtain⟨i,I,s⟩:=s;unfold z16 at w;rcases w with ⟨A,⟨f,args,E,g,cap,m,_⟩|⟨w,b⟩⟩|⟨A,z,C,F⟩
  ·rw[l]at m;cases m
  ·refine .inr ?_;have J:∀c r,okW own o (st.withH c r)=true:=fun c r=>by
    rw[<-b];exact zk7 l M
   unfold okW at b;rw[l]at b;rw[Z1,Z1]at b;replace b:=b.1.1;simp only[okT,I,s]at b;split at b
   ·rename_i id G;rw[decide_eq_true_eq]at b;have e:∀st:St,opR P own o st=st.keep (z11 P st.H t (st.ev p) (st.ev q)):=fun st=>by
     unfold opR;rw[l];simp only[hmG,if_neg y.1,if_neg y.2]
    rw[e]at w;obtain⟨z,rfl,rfl⟩:=z1m w;refine⟨id,b,rfl,fun _ _=>rfl,fun c r _ u=>?_⟩;have L:(fun j=>if j=id then st.H id else c j)=c:=by
     funext j
     by_cases B:j=id
     ·rw[if_pos B,B,u]
     ·rw[if_neg B]
    rw[L];refine .inl ⟨A,.inr ⟨?_,J c r⟩⟩;rw[e,z1w,z2p];show (z11 P c t (st.ev p) (st.ev q)).map _=_;rw[zld G u,z];rfl
   ·cases b
  ·exact .inl ⟨C,F,fun c r=>.inr ⟨A,z,rfl,rfl⟩⟩
 ·rename_i f args E l;split at s
  ·cases s
  ·rename_i W;have Y:zhr own o=true:=by
    unfold zhr;rw[l];simp only[s];simpa using W
   rcases z8t Y w with h|⟨k,Z,z,_,F,U,N,X⟩
   ·exact .inl h
   ·rw[s]at z;cases z;refine .inr ⟨k,rfl,U,fun j B=>by rw[N];unfold z0m;rw[if_neg B],fun c r hn u=>?_⟩;have:=X c r (by omega) u
    rw[show (fun j=>if j=k then H k else c j)=z0m c k Z from by
     funext j
     unfold z0m
     by_cases e:j=k
     ·rw[if_pos e,if_pos e,N];unfold z0m;rw[if_pos rfl]
     ·rw[if_neg e,if_neg e]]
    exact this
 ·cases s
def zff(own:List Nat)(o:Oper):Bool :=
 match o.op with
 | .load .. => z0s 9000000 own o.dst && !z0s 3000000 own o.dst && !z0s 6000000 own o.dst
 | .indexAddr .. => z0s 9000000 own o.dst && !z0s 3000000 own o.dst && !z0s 6000000 own o.dst
 |_=>false
theorem zmj{own:List Nat}{o:Oper}(b:zff own o=true):cls own o<=1:=by
 unfold zff at b;split at b
 ·rename_i a;unfold cls;rw[a];exact Za _
 ·rename_i a;unfold cls;rw[a];simp only;split<;>omega
 ·cases b
theorem zhd{own:List Nat}{ops:Array Oper}{o:Oper}{st:St}{d:D}{H:HM}{nx B:Nat}{H0:HM}(c:zff own o=true)(h:∀id,z3b own<=id->H id=H0 id)(u:z16 P own ops o (st.withH H0 B) d H0 B) :
  z16 P own ops o (st.withH H nx) d H nx:=by
 have A:∀f args s,o.op ≠ .call { callee:=.value f,args:=args,argTypes:=s }:=fun f args s e=>by unfold zff at c;rw[e]at c;cases c
 unfold z16 at *;rw[zk8]at *;rcases u with ⟨y,⟨f,args,s,g,cap,b,_⟩|⟨u,a⟩⟩|⟨y,k,_,_⟩
 ·exact(A _ _ _ b).elim
 ·refine .inl ⟨y,.inr ?_⟩;unfold zff at c;split at c
  ·rename_i t p b;simp only[Z1,Z6]at c;have v:isG own o.dst=false:=by unfold isG;simp[c.1.1]
   have l:okW own o (st.withH H nx)=true:=(zam b v).trans ((zam b v).symm.trans a);refine⟨?_,l⟩;unfold okW at a;rw[b]at a;simp only[Z1,okU,c.1.1,if_true]at a;replace a:=a.1;have e:∀st:St,opR P own o st=st.keep (z5y P st.H t (st.ev p)):=fun st=>by
    unfold opR;rw[b];simp only[zed,c.1.2,c.2,Z4,if_false]
   rw[e]at u⊢;obtain⟨k,_,_⟩:=z1m u;rw[z1w,z2p];rw[z2p]at k a;have k:z5y P H0 t (st.ev p)=some d:=k;have w:z5y P H t (st.ev p)=some d:=by
    rw[<-k];have m:=a.2;split at m
    ·rename_i id r j;rw[j];exact loadD_ptr (h id (of_decide_eq_true m))
    ·rename_i id r j;rw[j];rfl
    ·rename_i q j;rw[j];rfl
    ·rename_i q j;rw[j];rfl
    ·cases m
   show (z5y P H t (st.ev p)).map _=_;rw[w];rfl
  ·rename_i t x i b;simp only[Z1,Z6]at c;have v:isG own o.dst=false:=by unfold isG;simp[c.1.1]
   have l:okW own o (st.withH H nx)=true:=(zk7 b v).trans ((zk7 b v).symm.trans a);refine⟨?_,l⟩;unfold okW at a;rw[b]at a;rw[Z1,Z1]at a;replace a:=a.1.2;simp only[okU,c.1.1,if_true]at a;have e:∀st:St,opR P own o st=st.keep (z11 P st.H t (st.ev x) (st.ev i)):=fun st=>by
    unfold opR;rw[b];simp only[hmG,c.1.2,c.2,Z4,if_false]
   rw[e]at u⊢;obtain⟨k,_,_⟩:=z1m u;rw[z1w,z2p];rw[z2p]at k a;have k:z11 P H0 t (st.ev x) (st.ev i)=some d:=k;have w:z11 P H t (st.ev x) (st.ev i)=some d:=by
    rw[<-k];have m:=a;unfold z11;split at m
    ·rename_i id r j;rw[j]<;>(cases z3g P t<;>cases st.ev i<;>rfl)
    ·rename_i id r j;rw[j];have z:=h id (of_decide_eq_true m);cases z3g P t<;>cases st.ev i<;>first|rfl|simp only[z]
    ·rename_i q j;rw[j]<;>(cases z3g P t<;>cases st.ev i<;>rfl)
    ·rename_i q j;rw[j]<;>(cases z3g P t<;>cases st.ev i<;>rfl)
    ·cases m
   show (z11 P H t (st.ev x) (st.ev i)).map _=_;rw[w];rfl
  ·cases c
 ·exact .inr ⟨y,k,rfl,rfl⟩
theorem swap_ta{own:List Nat}{ops:Array Oper}{x y:Oper}{st:St}{dx dy:D}{H1 H2:HM}{n1 n2:Nat}(i:zhr own x=true)(a:zff own y=true)(h:z16 P own ops x st dx H1 n1)(j:z16 P own ops y (st.withH H1 n1) dy H2 n2) :
  ∃l o,z16 P own ops y st dy l o/\z16 P own ops x (st.withH l o) dx H2 n2:=by
 obtain⟨b,c⟩:=z5n (zmj a) j;have b:H2=H1:=b;have c:n2=n1:=c;subst b;subst c;rcases z8t i h with ⟨d,e,m⟩|⟨k,t,_,s,p,e,d,r⟩
 ·subst d;subst e;exact⟨st.H,st.nx,j,h⟩
 ·subst d;subst e;refine⟨st.H,st.nx,?_,h⟩;have:=zhd (H:=st.H) (nx:=st.nx) a (fun id q=>by unfold z0m;rw[if_neg (by omega)]) j;exact this
theorem swap_at{own:List Nat}{ops:Array Oper}{x y:Oper}{st:St}{dx dy:D}{H1 H2:HM}{n1 n2:Nat}(b:zff own x=true)(i:zhr own y=true)(e:z16 P own ops x st dx H1 n1)(t:z16 P own ops y (st.withH H1 n1) dy H2 n2) :
  ∃j m,z16 P own ops y st dy j m/\z16 P own ops x (st.withH j m) dx H2 n2:=by
 obtain⟨o,p⟩:=z5n (zmj b) e;subst o;subst p;have a:z16 P own ops y st dy H2 n2:=t;rcases z8t i a with ⟨c,d,l⟩|⟨k,v,_,u,q,d,c,s⟩
 ·subst c;subst d;exact⟨st.H,st.nx,a,e⟩
 ·subst c;subst d;refine⟨_,_,a,?_⟩;have h:z16 P own ops x (st.withH st.H st.nx) dx st.H st.nx:=e;exact zhd b (fun id r=>by unfold z0m;rw[if_neg (by omega)]) h
def apartT(own:List Nat)(x y:Oper):Bool :=
 match touch own x,touch own y with
 |some a,some b=>a != b
 |_,_=>false
theorem zzd{own:List Nat}{ops:Array Oper}{x y:Oper}{st:St}{dx dy:D}{H1 H2:HM}{n1 n2:Nat}(q:apartT own x y=true)(B:z16 P own ops x st dx H1 n1)(v:z16 P own ops y (st.withH H1 n1) dy H2 n2) :
  ∃t w,z16 P own ops y st dy t w/\z16 P own ops x (st.withH t w) dx H2 n2:=by
 unfold apartT at q;split at q
 ·rename_i a b z A;rw[bne_iff_ne]at q;rcases zka z B with ⟨rfl,rfl,h⟩|⟨i,C,rfl,r,m⟩
  ·exact⟨H2,n2,v,h H2 n2⟩
  ·rcases zka A v with ⟨rfl,rfl,c⟩|⟨j,l,rfl,u,s⟩
   ·exact⟨st.H,st.nx,c st.H st.nx,by
     have:=m st.H st.nx (Za _) rfl;have e:(fun j=>if j=i then H2 i else st.H j)=H2:=by
      funext j
      by_cases l:j=i
      ·rw[if_pos l,l]
      ·rw[if_neg l,r j l]
     rw[e]at this;exact this⟩
   ·have d:i≠j:=by omega
    refine⟨fun k=>if k=j then H2 j else st.H k,st.nx,s st.H st.nx (Za _) (r j fun e=>d e.symm).symm,?_⟩;have:=m (fun k=>if k=j then H2 j else st.H k) st.nx (Za _) (by rw[if_neg d]);have e:(fun k=>if k=i then H1 i else if k=j then H2 j else st.H k)=H2:=by
     funext k
     by_cases o:k=i
     ·rw[if_pos o,o];exact(u i d).symm
     ·rw[if_neg o]
      by_cases p:k=j
      ·rw[if_pos p,p]
      ·rw[if_neg p,u k p];exact(r k o).symm
    rw[e]at this;exact this
 ·cases q
def zhe(own:List Nat)(ops:Array Oper)(x y:Oper):Bool :=
 x.apart ops y&&(cls own x==0 ||cls own y==0 ||(cls own x==1&&cls own y==1) ||(zc3 own x&&zk9 own y) ||(zk9 own x&&zc3 own y) ||((zc3 own x ||zro own x ||fcall own x)&&newB own y) ||(zfd own x&&zrq own y) ||(zrq own x&&zfd own y) ||apartT own x y ||(zhr own x&&newW own y) ||(newW own x&&zhr own y) ||(zhr own x&&zff own y) ||(zff own x&&zhr own y))

theorem swap{own:List Nat}{ops:Array Oper}{x y:Oper}{st:St}{dx dy:D}{H1 H2:HM}{n1 n2:Nat}(A:zhe own ops x y=true)
  (h:z16 P own ops x st dx H1 n1) (k:z16 P own ops y (st.next x dx H1 n1) dy H2 n2) :
  ∃d i,z16 P own ops y st dy d i/\z16 P own ops x (st.next y dy d i) dx H2 n2/\(st.next x dx H1 n1).next y dy H2 n2=(st.next y dy d i).next x dx H2 n2:=by
 simp only[zhe,Z1,Zf,beq_iff_eq]at A;obtain⟨z,hc⟩:=A;obtain⟨u,v,w⟩:=Oper.apart_spec z;have ty:∀t∈y.looksAt ops,(st.next x dx H1 n1).t t=st.t t:=fun t c=>zme (fun e=>u t e c);have l:∀H n t,t∈x.looksAt ops->st.t t=(st.next y dy H n).t t:=fun H n t c=>(zme (fun e=>w t e c)).symm;have a:=fun d i=>next_comm (st:=st) (x:=x) (y:=y) (dx:=dx) (dy:=dy) (H1:=H1) (H2:=d) (H3:=H2) (n1:=n1) (n2:=i) (n3:=n2) v;rcases hc with (((((((((((hc|hc)|⟨B,C⟩)|⟨hl,j⟩)|⟨j,hl⟩)|⟨hl,j⟩)|⟨hl,j⟩)|⟨j,hl⟩)|hl)|⟨hl,j⟩)|⟨j,hl⟩)|⟨hl,j⟩)|⟨j,hl⟩
 ·-- x looks at nothing and changes nothing
  obtain⟨rfl,rfl,p⟩:=zmd hc h;refine⟨H2,n2,z12 ty (z3u ..) (z2q ..) k,?_,a _ _⟩;exact z12 (st:=st.withH H2 n2) (fun t c=>l _ _ t c) (z3u ..).symm (z2q ..).symm (p H2 n2)
 ·obtain⟨m,o,p⟩:=zmd hc k;rw[z3u]at m;rw[z2q]at o;subst m;subst o;have b:=p st.H st.nx;refine⟨st.H,st.nx,z12 (st:=(st.next x dx H2 n2).withH st.H st.nx) ty rfl rfl b,?_,a _ _⟩;exact z12 (fun t c=>l _ _ t c) (z3u ..).symm (z2q ..).symm h
 ·obtain⟨rfl,rfl⟩:=z5n (by omega) h;obtain⟨m,o⟩:=z5n (by omega) k;rw[z3u]at m;rw[z2q]at o;subst m;subst o;refine⟨st.H,st.nx,z12 ty (z3u ..) (z2q ..) k,?_,a _ _⟩;exact z12 (fun t c=>l _ _ t c) (z3u ..).symm (z2q ..).symm h
 ·-- x looks into boxes,y leaves them
  obtain⟨rfl,rfl⟩:=z5n (by rw[zgl hl];omega) h;have b:z16 P own ops y st dy H2 n2:=z12 ty (z3u ..) (z2q ..) k;have q:=zh9 j b;refine⟨H2,n2,b,?_,a _ _⟩;exact z12 (st:=st.withH H2 n2) (fun t c=>l _ _ t c) (z3u ..).symm (z2q ..).symm ((zha hl q).1 h)
 ·have q:=zh9 j h;obtain⟨m,o⟩:=z5n (by rw[zgl hl];omega) k;rw[z3u]at m;rw[z2q]at o;subst m;subst o;have b:z16 P own ops y (st.withH H2 n2) dy H2 n2:=z12 ty (z3u ..) (z2q ..) k;refine⟨st.H,st.nx,(zha hl q).2 b,?_,a _ _⟩;exact z12 (fun t c=>l _ _ t c) (z3u ..).symm (z2q ..).symm h

 ·obtain⟨rfl,rfl⟩:=z5n (by rcases hl with (hl|hl)|hl;(· rw[zgl hl];omega);(· rw[zza hl];omega);(· rw[fcall_cls hl];omega)) h;have b:z16 P own ops y st dy H2 n2:=z12 ty (z3u ..) (z2q ..) k;have q:=zz9 j b;refine⟨H2,n2,b,?_,a _ _⟩;refine z12 (st:=st.withH H2 n2) (fun t c=>l _ _ t c) (z3u ..).symm (z2q ..).symm ?_;rcases hl with (hl|hl)|hl
  ·exact zrn hl q h
  ·exact zrp hl q h
  ·exact zuf hl q h

 ·obtain⟨rfl,rfl⟩:=z5n (by rw[zmh hl];omega) h;have b:z16 P own ops y st dy H2 n2:=z12 ty (z3u ..) (z2q ..) k;have q:=zhc j b;refine⟨H2,n2,b,?_,a _ _⟩;exact z12 (st:=st.withH H2 n2) (fun t c=>l _ _ t c) (z3u ..).symm (z2q ..).symm ((zhb hl q).1 h)
 ·have q:=zhc j h;obtain⟨m,o⟩:=z5n (by rw[zmh hl];omega) k;rw[z3u]at m;rw[z2q]at o;subst m;subst o;have b:z16 P own ops y (st.withH H2 n2) dy H2 n2:=z12 ty (z3u ..) (z2q ..) k;refine⟨st.H,st.nx,(zhb hl q).2 b,?_,a _ _⟩;exact z12 (fun t c=>l _ _ t c) (z3u ..).symm (z2q ..).symm h
 ·have b:z16 P own ops y (st.withH H1 n1) dy H2 n2:=z12 ty (z3u ..) (z2q ..) k;obtain⟨d,i,r,s⟩:=zzd hl h b;exact⟨d,i,r,z12 (st:=st.withH d i) (fun t c=>l _ _ t c) (z3u ..).symm (z2q ..).symm s,a _ _⟩
 ·have b:z16 P own ops y (st.withH H1 n1) dy H2 n2:=z12 ty (z3u ..) (z2q ..) k;obtain⟨d,i,r,s⟩:=swap_tn hl j h b;exact⟨d,i,r,z12 (st:=st.withH d i) (fun t c=>l _ _ t c) (z3u ..).symm (z2q ..).symm s,a _ _⟩
 ·have b:z16 P own ops y (st.withH H1 n1) dy H2 n2:=z12 ty (z3u ..) (z2q ..) k;obtain⟨d,i,r,s⟩:=swap_nt j hl h b;exact⟨d,i,r,z12 (st:=st.withH d i) (fun t c=>l _ _ t c) (z3u ..).symm (z2q ..).symm s,a _ _⟩
 ·have b:z16 P own ops y (st.withH H1 n1) dy H2 n2:=z12 ty (z3u ..) (z2q ..) k;obtain⟨d,i,r,s⟩:=swap_ta hl j h b;exact⟨d,i,r,z12 (st:=st.withH d i) (fun t c=>l _ _ t c) (z3u ..).symm (z2q ..).symm s,a _ _⟩
 ·have b:z16 P own ops y (st.withH H1 n1) dy H2 n2:=z12 ty (z3u ..) (z2q ..) k;obtain⟨d,i,r,s⟩:=swap_at j hl h b;exact⟨d,i,r,z12 (st:=st.withH d i) (fun t c=>l _ _ t c) (z3u ..).symm (z2q ..).symm s,a _ _⟩

def zid(P:Program)(own:List Nat)(ops:Array Oper)(K:St->Prop):List Nat->St->Prop
 |[],st=>K st
 |i::rest,st=>∃o d H a,ops[i]?=some o/\z16 P own ops o st d H a/\zid P own ops K rest (st.next o d H a)

theorem pull{own:List Nat}{ops:Array Oper}{K:St->Prop}{i:Nat}{p:Oper}(hi:ops[i]?=some p):∀(d e:List Nat) (st:St),
  (∀j∈d,∀c,ops[j]?=some c->zhe own ops c p=true)->zid P own ops K (d++i::e) st->zid P own ops K (i::(d++e)) st
 |[],e,st,_,h=>h
 |j::d,e,st,q,h=>by
  simp only[Zi,zid]at h;obtain⟨c,t,Hj,A,b,o,h⟩:=h;have l:=pull hi d e _ (fun k x=>q k (Y0 _ x)) h;simp only[zid]at l;obtain⟨B,s,Hi,z,a,m,l⟩:=l;rw[hi]at a;cases a;obtain⟨r,y,u,v,w⟩:=swap (q j (by simp) c b) o m;simp only[Zi,zid];exact⟨p,s,r,y,hi,u,c,t,Hi,z,b,v,by rw[<-w];exact l⟩

def zze(ops:Array Oper):Nat->Nat->Nat->Bool
 |0,_,_=>false
 |n+1,j,i=>match ops[i]? with
  |some o=>o.after.toList.any fun e=>Region.binds .any e&&(e.on==j ||(decide (j<e.on)&&zze ops n j e.on))
  |none=>false
def zmk(own:List Nat)(ops:Array Oper):Bool :=
 (Zd ops.size).all fun i=>match ops[i]? with
  |none=>true
  |some a=>(a.after.toList.all fun e => !Region.binds .any e ||decide (e.on<i)) &&
   (Zd i).all fun j=>match ops[j]? with
    |some b=>zhe own ops b a ||zze ops ops.size j i
    |none=>true

def zml(ops:Array Oper)(listed:Array Bool):Prop :=
 ∀k o,ops[k]?=some o->listed.getD k true=true->∀e∈o.after.toList,Region.binds .any e=true->listed.getD e.on false=true

theorem zc5{ops:Array Oper}{listed:Array Bool}(k:listed.size=ops.size)(m:zml ops listed):∀(n j i:Nat),zze ops n j i=true ->
  (∀o,ops[i]?=some o->∀e∈o.after.toList,Region.binds .any e=true->listed.getD e.on false=true)->listed.getD j false=true
 |0,j,i,h,_=>by cases h
 |n+1,j,i,h,q=>by
  simp only[zze]at h;split at h
  ·rename_i o s;obtain⟨e,p,l⟩:=List.any_eq_true.1 h;simp only[Z1,Zf,beq_iff_eq,decide_eq_true_eq]at l;obtain⟨c,d⟩:=l;have b:=q o s e p c;rcases d with rfl|⟨_,t⟩
   ·exact b
   ·refine zc5 k m n j e.on t fun u a=>m e.on u a ?_;have r:e.on<ops.size:=(Zw.1 a).1;simp only[Z5]at b⊢;rw[Z8 (by omega)]at b⊢
    simpa using b
  ·cases h

def rem(ops:Array Oper)(listed:Array Bool):List Nat:=(Zd ops.size).filter fun i => !listed.getD i true

theorem zc6{p:Nat->Bool}:∀(l:List Nat) (i:Nat),l.Pairwise (· < ·)->i∈l->p i=true->∃d e,l.filter p=d++i::e/\l.filter (fun k=>p k&&k != i)=d++e/\∀j∈d,j<i/\p j=true
 |[],i,_,hi,_=>by cases hi
 |a::l,i,u,hi,o=>by
  have c:=Y4.1 u;rcases Zn.1 hi with rfl|hi
  ·refine⟨[],l.filter p,by simp[o],?_,by simp⟩;simp only[ZJ,o,bne_self_eq_false,Yc,Z4,if_false,ZL];refine Zx fun k t=>?_;have:k≠i:=by have:=c.1 k t;omega
   simp[this]
  ·obtain⟨d,e,q,r,s⟩:=zc6 l i c.2 hi o;have h:a<i:=c.1 i hi;have m:(a != i)=true:=by simp;omega
   by_cases b:p a=true
   ·refine⟨a::d,e,by simp[b,q],by simp[b,m,r],fun j hj=>?_⟩;rcases Zn.1 hj with rfl|hj
    ·exact⟨h,b⟩
    ·exact s j hj
   ·refine⟨d,e,by simp[b,q],by simp[b,r],s⟩

theorem z4h(l:Array Bool)(i k:Nat):(l.setIfInBounds i true).getD k true=(l.getD k true ||k==i):=by
 simp only[Z5,ZM]
 by_cases h:i=k
 ·subst h
  by_cases a:i<l.size<;>simp[a]
 ·have:(k==i)=false:=by simp;omega
  simp[h,this]
theorem zfg (l:Array Bool)(i k:Nat):l.getD k false=true->(l.setIfInBounds i true).getD k false=true:=by
 simp only[Z5,ZM]
 by_cases h:i=k
 ·subst h
  by_cases a:i<l.size<;>simp[a]
 ·simp[h]

theorem zui{own:List Nat}{ops:Array Oper}{o:Oper}{st:St}{d:D}{H:HM}{nx:Nat}(l:z9x ops st o=some true)(hs:z16 P own ops o st d H nx):opW P own o st (fun j=>j=st.next o d H nx):=by
 unfold z16 at hs;rcases hs with ⟨_,hs⟩|⟨e,_⟩
 ·rcases hs with ⟨f,args,k,g,cap,a,i,⟨_,_,b,rfl,rfl⟩|⟨_,b,rfl,rfl⟩|⟨_,_,h,_⟩⟩|hs
  ·unfold opW;rw[a];simp only[i];exact AC.mono b.1 fun r H nx ⟨c,h2,h3⟩=>by subst c;subst h2;subst h3;rfl
  ·unfold opW;rw[a];simp only[i];exact AC.mono (b _ _) fun r H nx ⟨c,h2,h3⟩=>by subst c;subst h2;subst h3;rfl
  ·unfold opW;rw[a];simp only[i];exact AC.mono h fun r H nx ⟨c,h2,h3⟩=>by subst c;subst h2;subst h3;rfl
  ·obtain⟨hs,_⟩:=hs;unfold opW;split
   ·rename_i f args k a;unfold opR at hs;rw[a]at hs;cases hs
   ·rw[hs];rfl
 ·rw[l]at e;cases e

theorem zan{N:Nat}{own:List Nat}{ops:Array Oper}{Q:Exit->Act->World->Prop}{i:Nat}{o:Oper}{st:St}{s:RS}{a:Act}{w:World}{d:D}{H:HM}{nx:Nat}{R:Act->World->Prop}
  (u:ops[i]?=some o) (e:z6o N o=true) (k:Fr P N st s a w) (c:z16 P own ops o st d H nx)
  (t:∀m j h,Fr P N (st.next o d H nx) m j h->Step s w m h->R j h):wpOp P ops Q i R a w:=by
 unfold wpOp;rw[u];simp only;have b:=c;unfold z16 at b;rcases b with ⟨l,_⟩|⟨l,rfl,rfl,rfl⟩
 ·rw[if_pos (z3n k l)];refine .inl (zc1 k e (zui l c) fun v m j h r p q=>?_);subst r;exact t m j h p q
 ·rw[if_neg (by rw[z3n k l];simp)];exact t s _ w (k.put0 e zc0) (Step.refl s w)
theorem zao{own:List Nat}{ops:Array Oper}{K:St->Prop}:∀(l1 a:List Nat) (st:St),zid P own ops K (l1++a) st=zid P own ops (zid P own ops K a) l1 st
 |[],a,st=>rfl
 |i::l1,a,st=>by
  simp only[Zi,zid,zao l1 a]
theorem zc7{own:List Nat}{ops:Array Oper}{K a:St->Prop}(h:∀st,K st->a st):∀(l:List Nat) (st:St),zid P own ops K l st->zid P own ops a l st
 |[],st,j=>h st j
 |i::l,st,⟨o,d,H,k,b,c,e⟩=>⟨o,d,H,k,b,c,zc7 h l _ e⟩
def callB(o:Oper):Bool:=match o.op with | .call { callee:=.value _,.. }=>true|_=>false
theorem stepE_det{own:List Nat}{ops:Array Oper}{o:Oper}{st:St}{d r:D}{H q:HM}{n s:Nat}(l:callB o=false)(h:z16 P own ops o st d H n)(j:z16 P own ops o st r q s):d=r/\H=q/\n=s:=by
 unfold z16 at h j;have c:∀ {p:Prop}{f args b g cap},(o.op=.call { callee:=.value f,args:=args,argTypes:=b }/\st.ev f=.fn g cap/\p)->False:=by
  intro p f args b g cap ⟨e,_⟩;unfold callB at l;rw[e]at l;cases l
 rcases h with ⟨m,⟨f,args,b,g,cap,k⟩|⟨k,_⟩⟩|⟨m,rfl,rfl,rfl⟩
 ·exact(c k).elim
 ·rcases j with ⟨a,⟨f,args,b,g,cap,i⟩|⟨i,_⟩⟩|⟨a,_⟩
  ·exact(c i).elim
  ·rw[k]at i;cases i;exact⟨rfl,rfl,rfl⟩
  ·rw[m]at a;cases a
 ·rcases j with ⟨a,_⟩|⟨a,rfl,rfl,rfl⟩
  ·rw[m]at a;cases a
  ·exact⟨rfl,rfl,rfl⟩
def forkK(P:Program)(own:List Nat)(ops:Array Oper)(K:St->Prop)(a:Nat)(p:List Nat)(st:St):Prop:=zid P own ops K (a::(a+1)::p) st/\zid P own ops K ((a+1)::a::p) st
def zgm(own:List Nat)(ops:Array Oper)(a:Nat):Bool :=
 (Zd ops.size).all fun i=>match ops[i]? with
  |none=>true
  |some b=>(b.after.toList.all fun e => !Region.binds .any e ||decide (e.on<i))&&(decide (i<=a+1) || !callB b) &&
   (Zd i).all fun j=>match ops[j]? with
    |some c=>(decide (j=a)&&decide (i=a+1)) ||(zhe own ops c b ||zze ops ops.size j i)
    |none=>true
theorem zrt{own:List Nat}{ops:Array Oper}{x:Nat}{listed:Array Bool}(o:zgm own ops x=true)(u:listed.size=ops.size)(t:Region.ready .any ops listed=[]):rem ops listed=[]:=by
 cases b:rem ops listed with
 |nil=>rfl
 |cons i r =>
  exfalso;have a:∀k,k∈rem ops listed ↔ k<ops.size/\listed.getD k true=false:=by
   intro k;simp only[rem,Zg,ZD,Z6]
  have j:=(a i).1 (by rw[b];simp);have c:∀k,k<i->listed.getD k true=true:=by
   intro k v;cases s:listed.getD k true with
   |true=>rfl
   |false =>
    have hk':=(a k).2 ⟨by omega,s⟩;have h:(rem ops listed).Pairwise (· < ·):=List.Pairwise.filter _ Zq;rw[b]at hk' h;rcases Zn.1 hk' with rfl|hk'
    ·omega
    ·have:=(Y4.1 h).1 k hk';omega
  have:i∈Region.ready .any ops listed:=by
   simp only[Region.ready,Zg,ZD,Z1,Z6];refine⟨j.1,j.2,?_⟩;have d:=Z8 j.1;rw[d];simp only[Z9,Zb,ZG];intro e q;have l:=Zc.1 o i (by simpa using j.1);rw[d]at l;simp only[Z1]at l;have h2:=Zc.1 l.1.1 e (by simpa using q);simp only[Zf,Z6,decide_eq_true_eq]at h2⊢;rcases h2 with h2|h2
   ·exact .inl h2
   ·refine .inr ?_;have p:=c e.on h2;have m:e.on<listed.size:=by omega
    simp only[Z5,Z8 m,Zb]at p⊢;exact p
  rw[t]at this;cases this
theorem zgn{N x:Nat}{own:List Nat}{ops:Array Oper}{K:St->Prop}{Q:Exit->Act->World->Prop}(O:zgm own ops x=true)(I:∀(i:Nat) o,ops[i]?=some o->z6o N o=true) :
  ∀(fuel:Nat) (listed:Array Bool) (st:St) (s:RS) (a:Act) (w:World),(rem ops listed).length<=fuel->listed.size=ops.size->zml ops listed->(listed.getD x true=true \/ listed.getD (x+1) true=true)->zid P own ops K (rem ops listed) st->Fr P N st s a w ->
  (∀U s' X W,K U->Fr P N U s' X W->Step s w s' W->Q .normal X W)->wpAny P .any ops Q fuel listed a w:=by
 have l:∀listed i,i∈Region.ready .any ops listed->i<ops.size/\listed.getD i true=false/\∀o,ops[i]?=some o->∀e∈o.after.toList,Region.binds .any e=true->listed.getD e.on false=true:=by
  intro listed i hi;simp only[Region.ready,Zg,ZD,Z1,Z6]at hi;obtain⟨G,Y,F⟩:=hi;refine⟨G,Y,fun o ho e he Z=>?_⟩;rw[ho]at F;simp only[Z9,Zb,ZG]at F;have:=F e (by simpa using he)
  simpa [Z] using this
 have z:=fun listed y R=>zrt (listed:=listed) O y R;intro fuel
 induction fuel with
 |zero =>
  intro listed st s a w t _ _ _ b hf hk;have h0:rem ops listed=[]:=Zs (by omega);rw[h0]at b;refine⟨?_,hk st s a w b hf (Step.refl s w)⟩;cases R:Region.ready .any ops listed with
  |nil=>rfl
  |cons i r =>
   have:=l listed i (by rw[R];simp);have hm:i∈rem ops listed:=Zg.2 ⟨by simpa using this.1,by rw[this.2.1];rfl⟩;rw[h0]at hm;cases hm
 |succ fuel ih =>
  intro listed st s a w t y c hx b hf hk;refine⟨fun R=>?_,fun i hi=>?_⟩
  ·rw[z listed y R]at b;exact hk st s a w b hf (Step.refl s w)
  ·obtain⟨G,Y,F⟩:=l listed i hi;have M:=Z8 G;obtain⟨r1,r2,e1,e2,e3⟩:=zc6 (p:=fun k => !listed.getD k true) (Zd ops.size) i Zq (by simpa using G) (by rw[Y];rfl);have A:rem ops listed=r1++i::r2:=e1;have v:rem ops (listed.setIfInBounds i true)=r1++r2:=by
    rw[<-e2];refine Zx fun k _=>?_;rw[z4h];cases listed.getD k true<;>simp[bne]
   rw[A]at b
   have u:=pull M r1 r2 st (fun j hj oj a6=>by
    obtain⟨a4,q⟩:=e3 j hj;have g1:=Zc.1 O i (by simpa using G);rw[M]at g1;simp only[Z1]at g1;have g2:=Zc.1 g1.2 j (by simpa using a4);rw[a6]at g2;simp only[Zf,Z1,decide_eq_true_eq]at g2;rcases g2 with ⟨rfl,rfl⟩|g2|g2
    ·exfalso;simp only[Z6]at q;rcases hx with h|h
     ·rw[q]at h;cases h
     ·rw[Y]at h;cases h
    ·exact g2
    ·exfalso;have:=zc5 y c _ _ _ g2 F;simp only[Z6]at q;have a5:j<listed.size:=by omega
     simp only[Z5,Z8 a5,Zb]at this q
     rw[this]at q;cases q) b
   simp only[zid]at u;obtain⟨o,d,H,nx,ho,E,C⟩:=u;have m:zml ops (listed.setIfInBounds i true):=by
    intro k ok J L e he Z;rw[z4h]at L;simp only[Zf,beq_iff_eq]at L;rcases L with L|rfl
    ·exact zfg _ _ _ (c k ok J L e he Z)
    ·exact zfg _ _ _ (F ok J e he Z)
   have B:(rem ops (listed.setIfInBounds i true)).length<=fuel:=by
    rw[v] ;rw[A]at t;simp only[ZH,Zj]at t⊢;omega
   have a9:(listed.setIfInBounds i true).getD x true=true \/ (listed.setIfInBounds i true).getD (x+1) true=true:=by
    rw[z4h,z4h];rcases hx with h|h
    ·exact .inl (by rw[h];rfl)
    ·exact .inr (by rw[h];rfl)
   exact zan ho (I i o ho) hf E fun s' X W a1 a7=>ih _ _ s' X W B (by simpa using y) m a9 (by rw[v];exact C) a1 fun b0 s2 a2 w2 a0 a3 a8=>hk b0 s2 a2 w2 a0 a3 (a7.trans a8)
def loL(listed:Array Bool)(a:Nat):List Nat:=(Zd a).filter fun i => !listed.getD i true
def hiL(listed:Array Bool)(a n:Nat):List Nat:=(Zk (a+2) (n-(a+2))).filter fun i => !listed.getD i true
theorem zru{ops:Array Oper}{listed:Array Bool}{a:Nat}(c:a+1<ops.size):rem ops listed=loL listed a++(([a,a+1].filter fun i => !listed.getD i true)++hiL listed a ops.size):=by
 have h:Zd ops.size=Zd a++([a,a+1]++Zk (a+2) (ops.size-(a+2))):=by
  obtain⟨m,b⟩:∃m,ops.size=a+(2+m):=⟨ops.size-(a+2),by omega⟩
  rw[b,Zm,Zm,<-Zt,<-Zt,show a+(2+m)-(a+2)=m from by omega];simp[Zk]
 unfold rem loL hiL;rw[h,Y5,Y5]
theorem z8b{listed:Array Bool}{l:List Nat}{i:Nat}(h:i∉l):(l.filter fun k => !(listed.setIfInBounds i true).getD k true)=l.filter fun k => !listed.getD k true:=by
 refine Zx fun k a=>?_;rw[z4h,beq_false_of_ne (show k≠i from fun e=>h (by rw[<-e];exact a)),ZO]
theorem zgo{listed:Array Bool}{l:List Nat}{i:Nat}(s:l.Pairwise (· < ·))(hi:i∈l)(q:listed.getD i true=false) :
  ∃a b,(l.filter fun k => !listed.getD k true)=a++i::b/\(l.filter fun k => !(listed.setIfInBounds i true).getD k true)=a++b/\∀j∈a,j<i/\j∈l/\listed.getD j true=false:=by
 obtain⟨a,b,c,e,h⟩:=zc6 (p:=fun k => !listed.getD k true) l i s hi (by rw[q];rfl);refine⟨a,b,c,?_,fun j d=>?_⟩
 ·rw[<-e];refine Zx fun k _=>?_;rw[z4h];cases listed.getD k true<;>simp[bne]
 ·have r:j∈l.filter fun k => !listed.getD k true:=by rw[c];exact List.mem_append_left _ d
  obtain⟨m,o⟩:=Zg.1 r;exact⟨(h j d).1,m,by simpa using o⟩
theorem pullK{own:List Nat}{ops:Array Oper}{a K2:St->Prop}{i:Nat}{c:Oper}(hi:ops[i]?=some c)(r:List Nat)(st:St)
  (k:∀j∈r,∀d,ops[j]?=some d->zhe own ops d c=true) (e:∀st,a st->zid P own ops K2 [i] st) (h:zid P own ops a r st):zid P own ops K2 (i::r) st:=by
 have b:=zc7 e r st h;rw[<-zao]at b;have:=pull hi r [] st k b;rwa [List.append_nil]at this
theorem any_fork{N b:Nat}{own:List Nat}{ops:Array Oper}{K:St->Prop}{Q:Exit->Act->World->Prop}(a1:zgm own ops b=true)(ha:b+1<ops.size)(t:∀(i:Nat) o,ops[i]?=some o->z6o N o=true) :
  ∀(fuel:Nat) (listed:Array Bool) (st:St) (s:RS) (a:Act) (w:World),(rem ops listed).length<=fuel->listed.size=ops.size->zml ops listed->listed.getD b true=false->listed.getD (b+1) true=false ->
   zid P own ops (forkK P own ops K b (hiL listed b ops.size)) (loL listed b) st->Fr P N st s a w ->
  (∀b2 Y X W,K b2->Fr P N b2 Y X W->Step s w Y W->Q .normal X W)->wpAny P .any ops Q fuel listed a w:=by
 have a3:∀listed i,i∈Region.ready .any ops listed->i<ops.size/\listed.getD i true=false/\∀o,ops[i]?=some o->∀e∈o.after.toList,Region.binds .any e=true->listed.getD e.on false=true:=by
  intro listed i hi;simp only[Region.ready,Zg,ZD,Z1,Z6]at hi;obtain⟨h1,h2,h3⟩:=hi;refine⟨h1,h2,fun o A e he hb=>?_⟩;rw[A]at h3;simp only[Z9,Zb,ZG]at h3;have:=h3 e (by simpa using he)
  simpa [hb] using this
 intro fuel
 induction fuel with
 |zero =>
  intro listed st s a w U _ _ hx hy r hf hk;have h0:rem ops listed=[]:=Zs (by omega);have hm:b∈rem ops listed:=Zg.2 ⟨by simp;omega,by rw[hx];rfl⟩;rw[h0]at hm;cases hm
 |succ fuel ih =>
  intro listed st s a w U J y hx hy r hf hk;refine⟨fun hr=>?_,fun i hi=>?_⟩
  ·exfalso;have hm:b∈rem ops listed:=Zg.2 ⟨by simp;omega,by rw[hx];rfl⟩;rw[zrt a1 J hr]at hm;cases hm
  ·obtain⟨h1,h2,h3⟩:=a3 listed i hi;have v:=Z8 h1;have b6:∀ {j},listed.getD j true=false->j<ops.size->zze ops ops.size j i=true->False:=fun {j} O hj g=>by
    have:=zc5 J y _ _ _ g h3;have b5:j<listed.size:=by omega
    simp only[Z5,Z8 b5,Zb]at this O;rw[this]at O;cases O
   have Z:=Zc.1 a1 i (by simpa using h1);rw[v]at Z;simp only[Z1]at Z;have m:∀j,j<i->¬(j=b/\i=b+1)->listed.getD j true=false->∀oj,ops[j]?=some oj->zhe own ops oj ops[i]=true:=by
    intro j b4 a6 O oj b7;have g2:=Zc.1 Z.2 j (by simpa using b4);rw[b7]at g2;simp only[Zf,Z1,decide_eq_true_eq]at g2;rcases g2 with g2|g2|g2
    ·exact(a6 g2).elim
    ·exact g2
    ·exact(b6 O (by omega) g2).elim
   have c:zml ops (listed.setIfInBounds i true):=by
    intro k ok a5 R e he hb;rw[z4h]at R;simp only[Zf,beq_iff_eq]at R;rcases R with R|rfl
    ·exact zfg _ _ _ (y k ok a5 R e he hb)
    ·exact zfg _ _ _ (h3 ok a5 e he hb)
   have u:(rem ops (listed.setIfInBounds i true)).length<=fuel:=by
    obtain⟨r1,r2,L,M,_⟩:=zgo (l:=Zd ops.size) (listed:=listed) Zq (by simpa using h1) h2;have L:rem ops listed=r1++i::r2:=L;have M:rem ops (listed.setIfInBounds i true)=r1++r2:=M;rw[M];rw[L]at U;simp only[ZH,Zj]at U⊢;omega
   have z:∀j∈loL listed b,j<b/\listed.getD j true=false:=fun j hj=>by
    obtain⟨g1,g2⟩:=Zg.1 hj;exact⟨by simpa using g1,by simpa using g2⟩
   by_cases c1:i<b
   ·obtain⟨r1,r2,L,M,e3⟩:=zgo (l:=Zd b) (listed:=listed) Zq (by simpa using c1) h2;have L:loL listed b=r1++i::r2:=L;have M:loL (listed.setIfInBounds i true) b=r1++r2:=M;rw[L]at r;obtain⟨o,d,H,nx,A,q,p⟩:=pull v r1 r2 st (fun j hj=>m j (e3 j hj).1 (by omega) (e3 j hj).2.2) r;have hh:hiL (listed.setIfInBounds i true) b ops.size=hiL listed b ops.size:=z8b (by simp;omega)
    exact zan A (t i o A) hf q fun Y X W C x=>ih _ _ Y X W u (by simpa using J) c (by rw[z4h,hx,beq_false_of_ne (by omega)];rfl) (by rw[z4h,hy,beq_false_of_ne (by omega)];rfl)
     (by rw[hh,M];exact p) C fun I s2 a2 w2 B E G=>hk I s2 a2 w2 B E (x.trans G)
   by_cases c2:i=b
   ·have hh:hiL (listed.setIfInBounds i true) b ops.size=hiL listed b ops.size:=z8b (by simp;omega);have R:loL (listed.setIfInBounds i true) b=loL listed b:=z8b (by simp;omega);have F:zid P own ops K (loL listed b++i::(b+1)::hiL listed b ops.size) st:=by
     rw[zao,c2];exact zc7 (fun _ h=>h.1) _ _ r
    obtain⟨o,d,H,nx,A,q,p⟩:=pull v _ _ st (fun j hj=>m j (by have:=z j hj;omega) (by omega) (z j hj).2) F;have hr:rem ops (listed.setIfInBounds i true)=loL listed b++(b+1)::hiL listed b ops.size:=by
     rw[zru ha,hh,R];simp only[ZJ,Y8,z4h,hx,hy,c2,beq_self_eq_true,ZU,ZP];rw[beq_false_of_ne (show b+1≠b by omega)]
     rfl
    exact zan A (t i o A) hf q fun Y X W C x=>zgn a1 t _ _ _ Y X W u (by simpa using J) c (.inl (by rw[z4h,c2];simp))
     (by rw[hr];exact p) C fun I s2 a2 w2 B E G=>hk I s2 a2 w2 B E (x.trans G)
   by_cases c3:i=b+1
   ·have hh:hiL (listed.setIfInBounds i true) b ops.size=hiL listed b ops.size:=z8b (by simp;omega);have R:loL (listed.setIfInBounds i true) b=loL listed b:=z8b (by simp;omega);have F:zid P own ops K (loL listed b++i::b::hiL listed b ops.size) st:=by
     rw[zao,c3];exact zc7 (fun _ h=>h.2) _ _ r
    obtain⟨o,d,H,nx,A,q,p⟩:=pull v _ _ st (fun j hj=>m j (by have:=z j hj;omega) (by have:=z j hj;omega) (z j hj).2) F;have hr:rem ops (listed.setIfInBounds i true)=loL listed b++b::hiL listed b ops.size:=by
     rw[zru ha,hh,R];simp only[ZJ,Y8,z4h,hx,hy,c3,beq_self_eq_true,ZU,ZP];rw[beq_false_of_ne (show b≠b+1 by omega)]
     rfl
    exact zan A (t i o A) hf q fun Y X W C x=>zgn a1 t _ _ _ Y X W u (by simpa using J) c (.inr (by rw[z4h,c3];simp))
     (by rw[hr];exact p) C fun I s2 a2 w2 B E G=>hk I s2 a2 w2 B E (x.trans G)
   ·have a4:callB ops[i]=false:=by
     have:=Z.1.2;simp only[Zf,decide_eq_true_eq,Z6]at this;rcases this with g|g
     ·omega
     ·exact g
    obtain⟨p1,p2,L,M,e3⟩:=zgo (l:=Zk (b+2) (ops.size-(b+2))) (listed:=listed) List.pairwise_lt_range' (by simp;omega) h2;have L:hiL listed b ops.size=p1++i::p2:=L;have M:hiL (listed.setIfInBounds i true) b ops.size=p1++p2:=M;have R:loL (listed.setIfInBounds i true) b=loL listed b:=z8b (by simp;omega);have a8:∀j∈p1,∀oj,ops[j]?=some oj->zhe own ops oj ops[i]=true:=fun j hj=>m j (e3 j hj).1 (by omega) (e3 j hj).2.2;have a9:=m b (by omega) (by omega) hx;have b0:=m (b+1) (by omega) (by omega) hy;rw[L]at r
    obtain⟨o,d,H,nx,A,q,p⟩:=pullK (K2:=forkK P own ops K b (p1++p2)) v _ st (fun j hj=>m j (by have:=z j hj;omega) (by have:=z j hj;omega) (z j hj).2) (fun b3 ⟨f1,f2⟩=>by
     have g1:=pull v (b::(b+1)::p1) p2 b3 (fun j hj=>by
      rcases Zn.1 hj with rfl|hj
      ·exact a9
      rcases Zn.1 hj with rfl|hj
      ·exact b0
      ·exact a8 j hj) f1
     have g2:=pull v ((b+1)::b::p1) p2 b3 (fun j hj=>by
      rcases Zn.1 hj with rfl|hj
      ·exact b0
      rcases Zn.1 hj with rfl|hj
      ·exact a9
      ·exact a8 j hj) f2
     obtain⟨o,d,H,n,A,hs,hr⟩:=g1;obtain⟨o',d',H',n',a7,x,b8⟩:=g2;rw[v]at A a7;cases A;cases a7;obtain⟨rfl,rfl,rfl⟩:=stepE_det a4 hs x
     exact⟨_,d,H,n,v,hs,hr,b8⟩) r
    exact zan A (t i o A) hf q fun Y X W C x=>ih _ _ Y X W u (by simpa using J) c (by rw[z4h,hx,beq_false_of_ne (by omega)];rfl) (by rw[z4h,hy,beq_false_of_ne (by omega)];rfl)
     (by rw[R,M];exact p) C fun I s2 a2 w2 B E G=>hk I s2 a2 w2 B E (x.trans G)
theorem drawOK_x{own:List Nat}{ops:Array Oper}(h:zmk own ops=true):zgm own ops ops.size=true:=by
 unfold zgm;refine Zc.2 fun i a=>?_;have g:=Zc.1 h i a;have a:i<ops.size:=by simpa using a
 rw[Z8 a]at g⊢;simp only[Z1]at g⊢;refine⟨⟨g.1,by rw[decide_eq_true (show i<=ops.size+1 by omega)];rfl⟩,Zc.2 fun j c=>?_⟩;have b:=Zc.1 g.2 j c;have c:j<i:=by simpa using c
 rw[Z8 (show j<ops.size by omega)]at b⊢;simp only[Zf]at b⊢;exact .inr b

end Abs
namespace Abs
open Go.RowKit
variable {P:Program}

def opD(P:Program)(own:List Nat)(o:Oper)(st:St)(K:St->Prop):Prop :=
 match o.op with
 | .call { callee:=.value f,args:=args,argTypes:=_ } =>
  match st.ev f with
  | .fn g cap=>(z0s 5000000 own o.dst=false/\tcM own o.dst=none/\∃r,RCF P own o.dst g (args.toList.map st.ev++cap) st r/\K (st.put o.dst r)) \/
    (z0s 5000000 own o.dst=true/\∃r,(∀H nx,RC P g (args.toList.map st.ev++cap) H nx r)/\K (st.put o.dst r)) \/
    (z0s 5000000 own o.dst=false/\z0s 4000000 own o.dst=true/\∃d H nx,AC P g (args.toList.map st.ev++cap) st.H st.nx (fun c b a=>c=d/\b=H/\a=nx)/\CallB P own o.dst g (args.toList.map st.ev++cap) st.H st.nx st d H nx/\K ((st.withH H nx).put o.dst d))
  |_=>False
 |_=>match opR P own o st with
  |some (d,H,nx)=>if okW own o st=true then K ({ st with H:=H,nx:=nx }.put o.dst d) else False
  |none=>False
def z46(P:Program)(own:List Nat)(a:List (Option Nat)):List Oper->(St->Prop)->St->Prop
 |[],K,st=>K st
 |o::rest,K,st =>
  match zh8 a st o with
  |some true=>opD P own o st (z46 P own a rest K)
  |some false=>z46 P own a rest K (st.put o.dst (.tup []))
  |none=>False

theorem zap{own:List Nat}{ops:Array Oper}{K:St->Prop}:∀(l:List Oper) (ks:List Nat) (st:St),ks.map (fun k=>ops[k]?)=l.map some->z46 P own (zrl ops) l K st->zid P own ops K ks st
 |[],[],st,_,h=>h
 |[],_::_,st,j,h=>by simp at j
 |_::_,[],st,j,h=>by simp at j
 |o::l,k::ks,st,j,h=>by
  simp only[Zl,ZC]at j;obtain⟨p,a⟩:=j;simp only[zid];simp only[z46]at h;rw[zc2]at h;split at h
  ·rename_i i;unfold opD at h;split at h
   ·rename_i f args e b;split at h
    ·rename_i g cap s;rcases h with ⟨m,y,r,c,h⟩|⟨m,r,c,h⟩|⟨m,w,d,H,v,q,u,h⟩
     ·exact⟨o,r,st.H,st.nx,p,.inl ⟨i,.inl ⟨f,args,e,g,cap,b,s,.inl ⟨m,y,c,rfl,rfl⟩⟩⟩,zap l ks _ a h⟩
     ·exact⟨o,r,st.H,st.nx,p,.inl ⟨i,.inl ⟨f,args,e,g,cap,b,s,.inr (.inl ⟨m,c,rfl,rfl⟩)⟩⟩,zap l ks _ a h⟩
     ·exact⟨o,d,H,v,p,.inl ⟨i,.inl ⟨f,args,e,g,cap,b,s,.inr (.inr ⟨m,w,q,u⟩)⟩⟩,zap l ks _ a h⟩
    ·cases h
   ·split at h
    ·rename_i d H v x;split at h
     ·rename_i t;exact⟨o,d,H,v,p,.inl ⟨i,.inr ⟨x,t⟩⟩,zap l ks _ a h⟩
     ·cases h
    ·cases h
  ·rename_i i;exact⟨o,.tup [],st.H,st.nx,p,.inr ⟨i,rfl,rfl,rfl⟩,zap l ks _ a h⟩
  ·cases h
theorem map_all(ops:Array Oper):(Zd ops.size).map (fun k=>ops[k]?)=ops.toList.map some:=by
 refine List.ext_getElem (by simp) fun i a c=>?_;have b:i<ops.size:=by simpa using a
 simp[Z8 b]
def swap2:List Oper->List Oper
 |x::y::l=>y::x::l
 |l=>l
theorem map_fork{ops:Array Oper}{a:Nat}(j:a+1<ops.size):(Zd a).map (fun k=>ops[k]?)=(ops.toList.take a).map some /\
  (a::(a+1)::Zk (a+2) (ops.size-(a+2))).map (fun k=>ops[k]?)=(ops.toList.drop a).map some /\
  ((a+1)::a::Zk (a+2) (ops.size-(a+2))).map (fun k=>ops[k]?)=(swap2 (ops.toList.drop a)).map some:=by
 have h:=map_all ops;have i:Zd ops.size=Zd a++(a::(a+1)::Zk (a+2) (ops.size-(a+2))):=by
  obtain⟨m,e⟩:∃m,ops.size=a+(2+m):=⟨ops.size-(a+2),by omega⟩
  rw[e,Zm,Zm,<-Zt,<-Zt,show a+(2+m)-(a+2)=m from by omega];simp[Zk]
 rw[i,List.map_append]at h;have d:=congrArg (List.take a) h;have b:=congrArg (List.drop a) h;rw[Y9 (by simp),<-Yf]at d;rw[Ya (by simp),<-Yg]at b;refine⟨d,b,?_⟩;cases c:ops.toList.drop a with
 |nil=>rw[c]at b;simp at b
 |cons x l =>
  cases l with
  |nil=>rw[c]at b;simp at b
  |cons y l =>
   rw[c]at b;simp only[Zl,ZC]at b;simp only[swap2,Zl,ZC];exact⟨b.2.1,b.1,b.2.2⟩
def awpR(P:Program)(own:List Nat)(ops:Array Oper)(K:St->Prop)(st:St):Prop :=
 (zmk own ops=true/\z46 P own (zrl ops) ops.toList K st) \/
 ∃a,zgm own ops a=true/\a+1<ops.size/\z46 P own (zrl ops) (ops.toList.take a) (fun b=>z46 P own (zrl ops) (ops.toList.drop a) K b/\z46 P own (zrl ops) (swap2 (ops.toList.drop a)) K b) st

def SealTo(P:Program)(st b:St):Prop:=∀N s a w,Fr P N st s a w->∃c,Fr P N b c a w/\Step s w c w
theorem SealTo.refl(st:St):SealTo P st st:=fun _ s _ w h=>⟨s,h,Step.refl s w⟩
theorem SealTo.trans{st c b:St}(h:SealTo P st c)(d:SealTo P c b):SealTo P st b:=fun N s a w l=>by
 obtain⟨m,e,i⟩:=h N s a w l;obtain⟨o,j,k⟩:=d N m a w e;exact⟨o,j,i.trans k⟩
def zo8(k:St->Prop)(Q:Exit->St->Prop):Exit->St->Prop
 | .normal,st=>k st
 |e,st=>Q e st
def zuj(id:Nat)(Q:Exit->St->Prop):Exit->St->Prop
 | .exit a,st=>if a=id then Q .normal st else Q (.exit a) st
 |e,st=>Q e st
def zzf(I:Nat->St->Prop)(n:Nat)(Q:Exit->St->Prop):Exit->St->Prop
 | .normal,st=>∃m,m<n/\I m st
 |e,st=>Q e st

def awp(P:Program)(own:List Nat):Code->(Exit->St->Prop)->St->Prop
 | .skip,Q,st=>Q .normal st
 | .region _ ops e,Q,st=>(e=true->awpR P own ops (Q .normal) st)/\(e=false->z2y P own (zrl ops) ops.toList (Q .normal) st)
 | .seq a b,Q,st=>awp P own a (zo8 (fun st=>∃d,SealTo P st d/\awp P own b Q d) Q) st
 | .cond c x y,Q,st=>∃t,st.ev c=.bool t/\(t=true->awp P own x Q st)/\(t=false->awp P own y Q st)
 | .block id c,Q,st=>awp P own c (zuj id Q) st
 | .loop c,Q,st=>∃I:Nat->St->Prop,(∃n,I n st)/\∀n d,I n d->awp P own c (zzf I n Q) d
 | .exit id,Q,st=>Q (.exit id) st
 | .ret,Q,st=>Q .ret st
 |_,_,_=>False

def z9z(N:Nat):Code->Bool
 | .region _ ops _=>ops.toList.all (z6o N)
 | .seq a b=>z9z N a&&z9z N b
 | .cond _ x y=>z9z N x&&z9z N y
 | .block _ c=>z9z N c
 | .loop c=>z9z N c
 |_=>true

theorem wp_loop_n{c:Code}{Q:Exit->Act->World->Prop}(I:Nat->Act->World->Prop)(j:∀n a w,I n a w->c.wp P (Exit.then (fun o q=>∃m,m<n/\I m o q) Q) a w) :
  ∀n a w,I n a w->(Code.loop c).wp P Q a w:=by
 intro n a w A b k s;have v:∀n a w,I n a w->∃e o q,Q e o q/\Arrives P (lone (b.at a (.code c :: .inLoop c::k)) s w) b k s e o q:=by
  intro n
  induction n using Nat.strongRecOn with
  |_ n E =>
   intro a w B;obtain⟨e,p,r,h,d⟩:=j n a w B b (.inLoop c::k) s;cases e with
   |normal =>
    obtain⟨m,C,t⟩:=h;obtain⟨z,y,F,u,i⟩:=E m C p r t;exact⟨z,y,F,u,.of_steps (Steps.trans d (.one step_inLoop)) i⟩
   |exit id=>exact⟨_,p,r,h,.pass (x:=.inLoop c) rfl (fun _ _=>.inl (by simp)) d⟩
   |goto l=>exact⟨_,p,r,h,.pass (x:=.inLoop c) rfl (fun _ _=>.inl (by simp)) d⟩
   |ret=>exact⟨_,p,r,h,.pass (x:=.inLoop c) rfl (fun _ _=>.inl (by simp)) d⟩
   |panic G=>exact⟨_,p,r,h,.pass (x:=.inLoop c) rfl (fun _ _=>.inl (by simp)) d⟩
   |outgrown=>exact⟨_,p,r,h,.pass (x:=.inLoop c) rfl (fun _ _=>.inl (by simp)) d⟩
 obtain⟨e,o,q,h,d⟩:=v n a w A;exact⟨e,o,q,h,.of_steps (.one step_loop) d⟩

def zwu(P:Program)(N:Nat)(s0:RS)(w0:World)(Q:Exit->St->Prop):Exit->Act->World->Prop :=
 fun e a w=>∃st s,Q e st/\Fr P N st s a w/\Step s0 w0 s w

theorem z7j{N:Nat}{own:List Nat}(R:P.follows .mixedOrders=true){s0:RS}{w0:World}:∀(c:Code) (Q:Exit->St->Prop) (st:St) (s:RS) (a:Act) (w:World),z9z N c=true->awp P own c Q st ->
  Fr P N st s a w->Step s0 w0 s w->c.wp P (zwu P N s0 w0 Q) a w
 | .skip,Q,st,s,a,w,_,h,u,v=>wp_skip ⟨st,s,h,u,v⟩
 | .region id ops X,Q,st,s,a,w,p,h,u,v=>by
  simp only[z9z]at p;have F:∀o∈ops.toList,z6o N o=true:=fun o ho=>Zc.1 p o ho;cases X with
  |false =>
   refine wp_region_list (zgk (Q:=zwu P N s0 w0 Q) ops.toList st s a w F (h.2 rfl) u fun d q L J Y b j=>⟨d,q,Y,b,v.trans j⟩)
  |true =>
   obtain⟨a0,a4⟩:=zkw (w':={ w with drawn:=w.drawn+1 }) u.heap rfl rfl rfl rfl;have b:Fr P N st s a { w with drawn:=w.drawn+1 }:=⟨u.H,u.nx,u.size,u.defers,u.tmps,a4⟩
   have z:∀(i:Nat) o,ops[i]?=some o->z6o N o=true:=fun i o ho=>F o (by
    obtain⟨W,h2⟩:=(Zw.1 ho)
    rw[<-h2];exact(Y1.2 (Array.getElem_mem W)))
   have G:(rem ops (Zh ops.size false)).length<=ops.size:=by
    have:(rem ops (Zh ops.size false)).length<=(Zd ops.size).length:=List.length_filter_le _ _
    simpa using this
   have Z:zml ops (Zh ops.size false):=by
    intro k o ho hl;have O:=(Zw.1 ho).1;simp[Z5,O]at hl
   have C:∀k,k<ops.size->(Zh ops.size false).getD k true=false:=fun k O=>by simp[Z5,O]
   refine wp_region_any R ?_;rcases h.1 rfl with ⟨M,h⟩|⟨x,M,hx,h⟩
   ·refine zgn (Q:=zwu P N s0 w0 Q) (drawOK_x M) z ops.size _ st s a _ G (by simp) Z (.inl (by simp[Z5])) ?_ b fun d q L J Y A B=>⟨d,q,Y,A,v.trans (a0.trans B)⟩
    have a1:rem ops (Zh ops.size false)=Zd ops.size:=by
     refine ZE.2 fun k hk=>?_;rw[C k (by simpa using hk)];rfl
    rw[a1];exact zap ops.toList _ st (map_all ops) h
   ·obtain⟨m1,m2,m3⟩:=map_fork hx;refine any_fork (Q:=zwu P N s0 w0 Q) M hx z ops.size _ st s a _ G (by simp) Z (C _ (by omega)) (C _ hx) ?_ b fun d q L J Y A B=>⟨d,q,Y,A,v.trans (a0.trans B)⟩
    have a6:loL (Zh ops.size false) x=Zd x:=ZE.2 fun k hk=>by
     rw[C k (by have:k<x:=(by simpa using hk);omega)];rfl
    have a5:hiL (Zh ops.size false) x ops.size=Zk (x+2) (ops.size-(x+2)):=ZE.2 fun k hk=>by
     rw[C k (by have:=List.mem_range'_1.1 hk;omega)];rfl
    rw[a6,a5];exact zc7 (fun a2 W=>⟨zap _ _ a2 m2 W.1,zap _ _ a2 m3 W.2⟩) _ _ (zap _ _ st m1 h)
 | .seq x y,Q,st,s,a,w,p,h,u,v=>by
  simp only[z9z,Z1]at p;refine wp_seq (wp_mono (z7j R x _ st s a w p.1 h u v) ?_);rintro e L J ⟨d,q,r,b,j⟩;cases e with
  |normal =>
   obtain⟨a8,U,r⟩:=r;obtain⟨s2,A,B⟩:=U N q L J b;exact z7j R y Q a8 s2 L J p.2 r A (j.trans B)
  |exit id=>exact⟨d,q,r,b,j⟩
  |goto l=>exact⟨d,q,r,b,j⟩
  |ret=>exact⟨d,q,r,b,j⟩
  |panic ch=>exact⟨d,q,r,b,j⟩
  |outgrown=>exact⟨d,q,r,b,j⟩
 | .cond c x y,Q,st,s,a,w,p,h,u,v=>by
  simp only[z9z,Z1]at p;obtain⟨t,ht,W,h2⟩:=h;have hv:=u.ev c;rw[ht]at hv;simp only[rel]at hv;exact wp_cond_split hv (fun e=>z7j R x Q st s a w p.1 (W e) u v) (fun e=>z7j R y Q st s a w p.2 (h2 e) u v)
 | .block id c,Q,st,s,a,w,p,h,u,v=>by
  refine wp_block (wp_mono (z7j R c _ st s a w p h u v) ?_);rintro e L J ⟨d,q,r,b,j⟩;cases e with
  |exit a9 =>
   simp only[zuj]at r;simp only[Exit.inBlock];split
   ·rename_i he;rw[if_pos he]at r;exact⟨d,q,r,b,j⟩
   ·rename_i he;rw[if_neg he]at r;exact⟨d,q,r,b,j⟩
  |normal=>exact⟨d,q,r,b,j⟩
  |goto l=>exact⟨d,q,r,b,j⟩
  |ret=>exact⟨d,q,r,b,j⟩
  |panic ch=>exact⟨d,q,r,b,j⟩
  |outgrown=>exact⟨d,q,r,b,j⟩
 | .loop c,Q,st,s,a,w,p,h,u,v=>by
  obtain⟨I,⟨n,hn⟩,E⟩:=h;refine wp_loop_n (fun n a w=>∃st s,I n st/\Fr P N st s a w/\Step s0 w0 s w) ?_ n a w ⟨st,s,hn,u,v⟩;rintro n a w ⟨st,s,hI,u,v⟩;refine wp_mono (z7j R c _ st s a w p (E n st hI) u v) ?_;rintro e L J ⟨d,q,r,b,j⟩;cases e with
  |normal =>
   obtain⟨m,a7,a3⟩:=r;exact⟨m,a7,d,q,a3,b,j⟩
  |exit id=>exact⟨d,q,r,b,j⟩
  |goto l=>exact⟨d,q,r,b,j⟩
  |ret=>exact⟨d,q,r,b,j⟩
  |panic ch=>exact⟨d,q,r,b,j⟩
  |outgrown=>exact⟨d,q,r,b,j⟩
 | .exit id,Q,st,s,a,w,_,h,u,v=>wp_exit ⟨st,s,h,u,v⟩
 | .ret,Q,st,s,a,w,_,h,u,v=>wp_ret ⟨st,s,h,u,v⟩
 | .rangeFunc ..,_,_,_,_,_,_,h,_,_=>h.elim
 | .scope _,_,_,_,_,_,_,h,_,_=>h.elim
 | .label _,_,_,_,_,_,_,h,_,_=>h.elim
 | .goto _,_,_,_,_,_,_,h,_,_=>h.elim
 | .refuse _,_,_,_,_,_,_,h,_,_=>h.elim

def valR(P:Program)(st:St):ResultVar->Option D
 | .tmp t=>some (st.t t)
 | .cell a ty=>z5y P st.H ty (st.t a)
def allR(P:Program)(st:St):List ResultVar->Option (List D)
 |[]=>some []
 |r::b=>match valR P st r,allR P st b with
  |some d,some a=>some (d::a)
  |_,_=>none
def resD(P:Program)(st:St)(b:List ResultVar):Option D :=
 match allR P st b with
 |some [d]=>some d
 |some a=>some (.tup a)
 |none=>none
def retQ(P:Program)(a:List ResultVar)(K:D->HM->Nat->Prop):Exit->St->Prop
 | .normal,st | .ret,st=>∃r,resD P st a=some r/\K r st.H st.nx
 |_,_=>False

theorem zzg{s:RS}{w:World}{p d:D}{H:HM}{t:TypeId}{v u:Value}(c:z5y P H t p=some d)(b:rel s p v)(e:(Instr.loadAt t v).run P w=.ok u w):(do loadVar t (<-asAddr v):Sem Value).run P w=.ok u w:=by
 have i:∃a,v=.pointer (some a):=by
  unfold z5y at c;split at c
  ·simp only[rel]at b;exact b.2.1
  ·simp only[rel]at b;exact b.2.1
  ·simp only[rel]at b;obtain⟨a,u,h,_⟩:=b;exact⟨a,h⟩
  ·cases c
 obtain⟨a,rfl⟩:=i
 simpa [Instr.loadAt,Instr.sureAddr,asAddr] using e

def resV(b:Array Value):ResultVar->Sem Value
 | .tmp t=>pure (b.getD t undef)
 | .cell a t=>do loadVar t (<-asAddr (b.getD a undef))
theorem zzh(c:Func)(a:Array Value):results c a=(do let b <-c.results.mapM (resV a);pure (if h:b.size=1 then b[0] else .tuple b)):=by
 unfold results
 congr 2
theorem zhf{N:Nat}{st:St}{s:RS}{a:Act}{w:World}(e:Fr P N st s a w):∀(j:List ResultVar) (ds:List D),allR P st j=some ds ->
  ∃i,(j.mapM (resV a.tmps)).run P w=.ok i w/\relAll s ds i
 |[],ds,h=>by
  simp only[allR,Z0]at h;subst h;exact⟨[],by simp,z15⟩
 |r::j,ds,h=>by
  simp only[allR]at h;split at h
  ·rename_i d k c l;cases h;obtain⟨i,m,o⟩:=zhf e j k l;cases r with
   |tmp t =>
    simp only[valR,Z0]at c;subst c;refine⟨a.tmps.getD t undef::i,?_,z0y (e.tmps t) o⟩;simp only[Yd,Sem.run_bind,resV,Sem.run_pure,Result.andThen_ok,m]
   |cell b ty =>
    simp only[valR]at c;have x:=c;rw[<-e.H]at c;obtain⟨u,p,q⟩:=zn0 e.heap c (e.tmps b);refine⟨u::i,?_,z0y q o⟩;have v:=zzg c (e.tmps b) p;rw[Yd,Sem.run_bind];simp only[resV];rw[v,Result.andThen_ok,Sem.run_bind,m,Result.andThen_ok,Sem.run_pure]
  ·cases h

theorem z83{N:Nat}{st:St}{s:RS}{a:Act}{w:World}(t:Fr P N st s a w){j:Func}{r:D}(h:resD P st j.results.toList=some r) :
  ∃v,(results j a.tmps).run P w=.ok v w/\rel s r v:=by
 unfold resD at h;cases b:allR P st j.results.toList with
 |none=>rw[b]at h;cases h
 |some m =>
  obtain⟨i,p,k⟩:=zhf t _ _ b;have c:(results j a.tmps).run P w=.ok (if h:i.toArray.size=1 then i.toArray[0] else .tuple i.toArray) w:=by
   rw[zzh,Array.mapM_eq_mapM_toList];simp only[Sem.run_bind,Sem.run_map,p,Result.andThen_ok,Sem.run_pure]
  rw[b]at h;have o:=z0j k
  match m,h with
  |[],h =>
   simp only[Z0]at h;subst h;have:i=[]:=Zs (by simpa using o);subst this;exact⟨_,c,by simp only[rel];exact⟨[],by simp,z15⟩⟩
  |[d],h =>
   simp only[Z0]at h;subst h;simp only[relAll]at k;obtain⟨v,r,rfl,q,rfl⟩:=k;exact⟨_,c,by simpa using q⟩
  |d::e::m,h =>
   simp only[Z0]at h;subst h;refine⟨_,c,?_⟩;have l:¬i.toArray.size=1:=by simp[o]
   rw[dif_neg l];simp only[rel];exact⟨i,rfl,k⟩

def st0(ds:List D)(H:HM)(nx:Nat):St:=⟨fun i=>(ds[i]?).getD .any,H,nx⟩

theorem zqze{f:FuncId}{b:Func}{c:Code}(own:List Nat)(F:P.funcs[f]?=some b)(E:b.body=some c)(j:(b.name == "runtime.NumGoroutine")=false)(O:P.follows .mixedOrders=true)
  (B:z9z b.ntmps c=true) {ds:List D}{H:HM}{nx:Nat}{K:D->HM->Nat->Prop}(M:ds.length<=b.ntmps) (h:awp P own c (retQ P b.results.toList K) (st0 ds H nx)):AC P f ds H nx K:=by
 refine⟨⟨b,F,j,by rw[E];rfl⟩,fun s w q J A y m=>?_⟩;have G:=z0j m;refine calls_of_wp F E ?_;have z:Fr P b.ntmps (st0 ds H nx) s { tmps:=q.toArray++Zh (b.ntmps-q.toArray.size) undef,defers:=[] } w:=by
  refine⟨J,A,by simp;omega,rfl,fun i=>?_,y⟩;simp only[st0];cases L:ds[i]? with
  |none=>simp[rel]
  |some d =>
   obtain⟨v,C,o⟩:=z38 m i d L;have N:i<q.length:=by
    rcases ZB i q.length with h|h
    ·exact h
    ·rw[ZW h]at C;cases C
   simp only[Z5,Zb];rw[Array.getElem?_append_left (by simpa using N)];simp only[ZX,C,Zb];exact o
 refine wp_mono (z7j (s0:=s) (w0:=w) O c _ _ s _ w B h z (Step.refl s w)) ?_;rintro e U X ⟨R,I,k,a,p⟩;cases e with
 |normal =>
  obtain⟨r,m,x⟩:=k;obtain⟨v,t,u⟩:=z83 a m;exact⟨a.defers,v,t,v,r,I,rfl,by rw[a.H,a.nx];exact x,p,a.heap,u⟩
 |ret =>
  obtain⟨r,m,x⟩:=k;obtain⟨v,t,u⟩:=z83 a m;exact⟨a.defers,v,t,v,r,I,rfl,by rw[a.H,a.nx];exact x,p,a.heap,u⟩
 |exit id=>exact k.elim
 |goto l=>exact k.elim
 |panic W=>exact k.elim
 |outgrown=>exact k.elim

end Abs
namespace Abs
open Go.RowKit
variable {P:Program}

def flatD:D->Bool
 | .int .. | .bool _ | .str _ | .nil | .nptr | .nfun | .nmp | .e0 | .any=>true
 | .tup a=>flatL a
 | .agg a=>flatL a
 |_=>false
where flatL:List D->Bool
 |[]=>true
 |d::a=>flatD d&&flatL a

mutual
theorem zwv(s s':RS):∀(d:D) (v:Value),flatD d=true->rel s d v->rel s' d v
 | .any,_,_,_=>by simp[rel]
 | .int k n,v,_,c=>by simpa [rel] using c
 | .bool b,v,_,c=>by simpa [rel] using c
 | .str x,v,_,c=>by simpa [rel] using c
 | .agg h,v,a,c=>by
  simp only[flatD]at a;simp only[rel]at c⊢;obtain⟨e,i,j,l⟩:=c;exact⟨e,i,ze9 s s' h e a j,l⟩
 | .tup h,v,a,c=>by
  simp only[flatD]at a;simp only[rel]at c⊢;obtain⟨e,i,j⟩:=c;exact⟨e,i,ze9 s s' h e a j⟩
 | .nil,v,_,c=>by simpa [rel] using c
 | .nptr,v,_,c=>by simpa [rel] using c
 | .nfun,v,_,c=>by simpa [rel] using c
 | .nmp,v,_,c=>by simpa [rel] using c
 | .e0,v,_,c=>by simpa [rel] using c
 | .rsl ..,_,a,_=>by cases a
 | .fsl ..,_,a,_=>by cases a
 | .rptr _,_,a,_=>by cases a
 | .fn ..,_,a,_=>by cases a
 | .osl ..,_,a,_=>by cases a
 | .ptr ..,_,a,_=>by cases a
 | .eptr ..,_,a,_=>by cases a
 | .mp _,_,a,_=>by cases a
 | .it _,_,a,_=>by cases a
theorem ze9(s s':RS):∀(ds:List D) (vs:List Value),flatD.flatL ds=true->relAll s ds vs->relAll s' ds vs
 |[],vs,_,a=>by simpa [relAll] using a
 |d::ds,vs,b,a=>by
  simp only[flatD.flatL,Z1]at b;simp only[relAll]at a⊢;obtain⟨v,r,c,e,h⟩:=a;exact⟨v,r,c,zwv s s' d v b.1 e,ze9 s s' ds r b.2 h⟩
end

def zgp(f:D->Option D):List D->Option (List D)
 |[]=>some []
 |d::c=>match f d,zgp f c with
  |some b,some a=>some (b::a)
  |_,_=>none
def z3f(P:Program)(H:HM):Nat->D->Option D
 |0,_=>none
 |k+1,d =>
  if pureD d=true then some d else
  match d with
  | .osl id n=>match H id with
   |some (.row e j b)=>if n=j/\(z0r P e=true \/ (z0r P e=false/\z0d P e=1)) then (zgp (z3f P H k) b).map fun a=>.rsl false (z0d P e) (z23 (z0r P e) (z0d P e) n a) else none
   |_=>none
  | .agg c=>(zgp (z3f P H k) c).map .agg
  | .tup c=>(zgp (z3f P H k) c).map .tup
  | .rsl l m h=>(zgp (z3f P H k) h).map (.rsl l m)
  | .fn f cap=>(zgp (z3f P H k) cap).map (.fn f)
  | .ptr id i=>match H id with
   |some (.box e b)=>if i=0/\(z0r P e=true \/ (z0r P e=false/\b.length=1)) then (zgp (z3f P H k) b).map fun a=>.rptr (if z0r P e=true then .agg a else (a[0]?).getD .any) else none
   |_=>none
  |_=>none

noncomputable def RS.shut(s:RS)(w:World):RS :=
 {s with m:=fun a=>@ite _ (owned s a.block) (ZR _) (w.cell? a) (s.m a),H:=fun _=>none }

theorem zd8{s:RS}{w:World}(h:RH P s w):Step s w (s.shut w) w/\RH P (s.shut w) w:=by
 have d:∀a v,s.m a=some v->(s.shut w).m a=some v:=by
  intro a v b;have:=(h.mem a v b).2;simp only[RS.shut];rw[if_neg this];exact b
 have e:∀k,¬owned (s.shut w) k:=by
  rintro k ⟨id,_,l,_⟩;exact l rfl
 refine⟨⟨rfl,rfl,rfl,Za _,Za _,d,fun a v b=>?_,fun id _=>?_,fun _ _ _=>rfl,fun k c=>(e k c).elim⟩,?_,?_,?_,fun g=>z2h d _ _ (z8d g) (h.glob g)⟩
 ·simp only[RS.shut]at b
  by_cases c:owned s a.block
  ·exact .inr (.inr c)
  ·rw[if_neg c]at b;exact .inl b
 ·simp only[RS.shut];unfold objLe;cases s.H id with
  |none=>rfl
  |some o=>cases o<;>exact .inl rfl
 ·intro a v b;refine⟨?_,e _⟩;simp only[RS.shut]at b
  by_cases c:owned s a.block
  ·rw[if_pos c]at b;exact b
  ·rw[if_neg c]at b;exact(h.mem a v b).1
 ·intro id o c;cases c
 ·intro i j p;exact(p rfl).elim

theorem zgq{s:RS}{w:World}(h:RH P s w):∀(k:Nat) (d:D) (v:Value) (r:D),rel s d v->z3f P s.H k d=some r->rel (s.shut w) r v:=by
 obtain⟨U,b9⟩:=zd8 h;intro k
 induction k with
 |zero=>intro d v r _ l;cases l
 |succ k ih =>
  have L:∀(ds:List D) (o:List Value) (rs:List D),relAll s ds o->zgp (z3f P s.H k) ds=some rs->relAll (s.shut w) rs o:=by
   intro ds
   induction ds with
   |nil=>intro o rs y l;simp only[zgp,Z0]at l;subst l;simpa [relAll] using y
   |cons d ds b7 =>
    intro o rs y l;simp only[relAll]at y;obtain⟨v,q,rfl,A,M⟩:=y;simp only[zgp]at l;split at l
    ·rename_i d' I hd t;cases l;exact z0y (ih d v d' A hd) (b7 q I M t)
    ·cases l
  intro d v r y l;simp only[z3f]at l;split at l
  ·rename_i hp;cases l;exact z2h U.mem d v hp y
  ·split at l
   ·rename_i id n _;split at l
    ·rename_i e n' cs E;split at l
     ·rename_i hc;obtain⟨rfl,a4⟩:=hc;simp only[Z3]at l;obtain⟨B,a1,rfl⟩:=l;obtain⟨o,ho,J,O,a2,C⟩:=z3w h E;simp only[rel]at y;obtain⟨N,_,F⟩:=y;have hv:=(F _ _ _ E).2 rfl;subst hv;have G:=L cs o B J a1;have b0:B.length=n*z0d P e:=by rw[<-z0j G,z0j J];exact a2
      have hg:=z95 a4 n B o b0 G O;have a3:(z23 (z0r P e) (z0d P e) n B).length=n:=by rw[<-z0j hg];exact z48 _ _ _ _
      simp only[rel];rcases ho.2 with ⟨W,b5⟩|⟨g,cap,b8,W,_,hh,b6,a8,_⟩
      ·subst b5;exact .inl ⟨trivial,by rw[z23],W⟩
      ·have R:owned s g:=⟨id,N,by rw[E];simp,by rw[W];rfl⟩
       refine .inr ⟨⟨g,0,none⟩,cap,_,by rw[a3];exact W,by rw[a3];exact b6,a8,hg,fun i u X=>?_⟩;have hi:i<n:=by
        rcases ZB i n with h9|h9
        ·exact h9
        ·rw[ZW (by rw[z48];exact h9)]at X;cases X
       rw[zcr _ _ _ _ _ hi]at X;simp only[Z0]at X;subst X;have a5:o.length=n*z0d P e:=by rw[z0j J];exact a2
       have Z:i*z0d P e+z0d P e<=n*z0d P e:=by
        have:=Nat.mul_le_mul_right (z0d P e) (show i+1<=n by omega);rw[Nat.add_mul]at this;omega
       have p:∀j c,o[j]?=some c->(s.shut w).m ⟨g,j,none⟩=some c:=by
        intro j c z;simp only[RS.shut];rw[if_pos R];exact C g (by rw[W];rfl) j c z
       rcases a4 with x|⟨x,A⟩
       ·rw[if_pos x];refine⟨by simp[Value.cells];omega,fun j c z=>?_⟩;rw[z1i,z1i,Zv];simp only[Value.cells,List.getElem?_take,List.getElem?_drop]at z;split at z
        ·exact p _ _ z
        ·cases z
       ·rw[if_neg (by rw[x];simp)];rw[A]at Z a5⊢;simp only[Yl]at Z a5⊢;have Y:o[i]?=some o[i]:=Zo (by omega);have a0:(o[i]).oneCell'=true:=O _ (ZK _);rw[Y];simp only[Zb];rw[z2v a0];refine⟨rfl,fun j c z=>?_⟩;cases j with
        |zero =>
         simp at z;subst z;rw[z1i,z1i,Zv];exact p _ _ Y
        |succ j=>simp at z
     ·cases l
    ·cases l
   ·rename_i ds _;simp only[Z3]at l;obtain⟨I,t,rfl⟩:=l;simp only[rel]at y⊢;obtain⟨o,A,M,h3⟩:=y;exact⟨o,A,L _ _ _ M t,h3⟩
   ·rename_i ds _;simp only[Z3]at l;obtain⟨I,t,rfl⟩:=l;simp only[rel]at y⊢;obtain⟨o,A,M⟩:=y;exact⟨o,A,L _ _ _ M t⟩
   ·rename_i nn sz a6 _;simp only[Z3]at l;obtain⟨I,t,rfl⟩:=l;simp only[rel]at y⊢;rcases y with ⟨A,rfl,h3⟩|⟨a,cap,o,A,M,h3,h4,h5⟩
    ·simp only[zgp,Z0]at t;subst t;exact .inl ⟨A,rfl,h3⟩
    ·have h6:=L _ _ _ h4 t;have h7:I.length=a6.length:=by rw[<-z0j h6,z0j h4]
     exact .inr ⟨a,cap,o,by rw[h7];exact A,by rw[h7];exact M,h3,h6,fun i u X=>⟨(h5 i u X).1,(h5 i u X).2.later U.mem⟩⟩
   ·rename_i f cap _;simp only[Z3]at l;obtain⟨I,t,rfl⟩:=l;simp only[rel]at y⊢;obtain⟨o,A,M⟩:=y;exact⟨o,A,L _ _ _ M t⟩
   ·rename_i id c1 _;split at l
    ·rename_i e cs E;split at l
     ·rename_i hc;obtain⟨rfl,x⟩:=hc;simp only[Z3]at l;obtain⟨B,a1,rfl⟩:=l;obtain⟨b,o,hk,hb,J,O,C⟩:=zfy h E;simp only[rel]at y;obtain⟨N,_,F⟩:=y;obtain⟨b',A,M⟩:=F _ _ E;have a7:b'=b:=by rw[A]at hk;cases hk;rfl
      subst a7;have G:=L cs o B J a1;have R:owned s b':=⟨id,N,by rw[E];simp,by rw[A];rfl⟩
      have p:∀j c,o[j]?=some c->(s.shut w).m ⟨b',j,none⟩=some c:=by
       intro j c z;simp only[RS.shut];rw[if_pos R];exact C j c z
      simp only[rel];rcases x with x|⟨x,b2⟩
      ·rw[if_pos x];refine⟨⟨b',0,none⟩,.agg o.toArray,M,by simp only[rel];exact⟨o,rfl,G,O⟩,fun j c z=>?_⟩;rw[z1i,Zv];exact p j c (by simpa [Value.cells] using z)
      ·rw[if_neg (by rw[x];simp)];have b3:o.length=1:=by rw[z0j J];exact b2
       obtain⟨u,rfl⟩:=ZV.1 b3;have b4:B.length=1:=by rw[<-z0j G];rfl
       obtain⟨c0,rfl⟩:=ZV.1 b4;simp only[relAll]at G;obtain⟨u',q,X,a9,_⟩:=G;cases X;have a0:u.oneCell'=true:=O _ (by simp);refine⟨⟨b',0,none⟩,u,M,a9,fun j c z=>?_⟩;rw[z2v a0]at z;rw[z1i,Zv];exact p j c (by simpa using z)
     ·cases l
    ·cases l
   ·cases l

def noH:HM:=fun _=>none
def PC(P:Program)(f:FuncId)(ds:List D)(r:D):Prop :=
 pureD.pureL ds=true/\pureD r=true/\AC P f ds noH 0 fun a _ _=>a=r

def Le(d a:D):Prop:=∀s v,rel s d v->rel s a v
theorem Le.refl(d:D):Le d d:=fun _ _ h=>h
theorem Le.nil(sz:Nat):Le .nil (.rsl false sz []):=fun s v h=>by simp only[rel]at h⊢;exact .inl ⟨trivial,trivial,h⟩
theorem Le.rsl{nn:Bool}{sz:Nat}{els:List D}:Le (.rsl nn sz els) (.rsl false sz els):=fun s v h=>by
 simp only[rel]at h⊢;rcases h with ⟨_,a,b⟩|h
 ·exact .inl ⟨trivial,a,b⟩
 ·exact .inr h
def LeL:List D->List D->Prop
 |[],[]=>True
 |d::a,e::b=>Le d e/\LeL a b
 |_,_=>False
theorem zfh{s:RS}:∀ {ds a:List D}{vs:List Value},LeL ds a->relAll s ds vs->relAll s a vs
 |[],[],_,_,h=>h
 |[],_::_,_,h,_=>h.elim
 |_::_,[],_,h,_=>h.elim
 |d::ds,e::a,vs,h,b=>by
  simp only[relAll]at b⊢;obtain⟨v,r,c,i,j⟩:=b;exact⟨v,r,c,h.1 _ _ i,zfh h.2 j⟩
theorem Le.tup{ds a:List D}(h:LeL ds a):Le (.tup ds) (.tup a):=fun s v b=>by
 simp only[rel]at b⊢;obtain⟨e,c,d⟩:=b;exact⟨e,c,zfh h d⟩
theorem Le.agg{ds a:List D}(h:LeL ds a):Le (.agg ds) (.agg a):=fun s v b=>by
 simp only[rel]at b⊢;obtain⟨i,c,d,e⟩:=b;exact⟨i,c,zfh h d,e⟩

def Fin(P:Program)(k:Nat)(r:D):D->HM->Nat->Prop:=fun a H _=>∃d,z3f P H k a=some d/\Le d r

theorem AC.shut{f:FuncId}{ds:List D}{H:HM}{nx:Nat}{r:D}{k:Nat}(h:AC P f ds H nx (Fin P k r)):AC P f ds H nx fun a _ _=>a=r:=by
 refine⟨h.1,fun s w o i j l m=>(h.2 s w o i j l m).mono fun e p ⟨v,a,s',he,⟨d,hs,hle⟩,hstep,hRH,hr⟩=>?_⟩;obtain⟨b,c⟩:=zd8 hRH;exact⟨v,r,s'.shut p,he,rfl,hstep.trans b,c,hle _ _ (zgq hRH k a v d hr hs)⟩

theorem z14{f:FuncId}{ds:List D}{r:D}(k:Nat)(a:pureD.pureL ds=true)(b:pureD r=true)(h:AC P f ds noH 0 (Fin P k r)):PC P f ds r :=
 ⟨a,b,h.shut⟩

theorem PC_lift{f:FuncId}{ds:List D}{r:D}(h:PC P f ds r){s s1:RS}{w:World}{vs:List Value}(B:RH P s w)(b:RH P s1 w)(I:relAll s1 ds vs)
  (c:(∀a v,s1.m a=some v->s.m a=some v) \/ flatD r=true) :
  Calls P f vs.toArray w fun e x=>∃v q p,e=.returned v/\(q=r/\p.H=s.H/\p.nx=s.nx)/\Step s w p x/\RH P p x/\rel p q v:=by
 let t:RS:={ s1 with H:=noH,nx:=0 }
 have l:∀k,¬owned t k:=by rintro k ⟨id,C,_⟩;exact absurd C (Zu _)
 have y:RH P t w:=⟨fun a v G=>⟨(b.mem a v G).1,l _⟩,fun id o R=>(by cases R),fun i j N=>(N rfl).elim,fun g=>z2h (s:=s1) (s':=t) (fun a v F=>F) _ _ (z8d g) (b.glob g)⟩
 have J:relAll t ds vs:=z28 (s:=s1) (s':=t) (fun a v F=>F) ds vs h.1 I;refine(h.2.2.2 t w vs rfl rfl y J).mono fun e x ⟨v,q,s3,he,hrr,hstep,hRH3,hrel⟩=>?_;subst hrr;have A:∀k,k<w.heap.size->x.heap[k]?=w.heap[k]?:=fun k O=>hstep.keep k O (l k);have d:Grew w x:=⟨hstep.os,hstep.tape,hstep.output,hstep.size,A⟩
 obtain⟨L,M⟩:=zck B d;refine⟨v,q,s.grow w x,he,⟨rfl,rfl,rfl⟩,L,M,?_⟩;rcases c with c|hflat
 ·refine z2h (fun a u z=>?_) q v h.2.1 hrel;simp only[RS.grow];rcases hstep.new a u z with h1|h1|h1
  ·have E:=b.mem_lt h1;rw[if_pos E];exact c a u h1
  ·rw[if_neg (by omega)];exact(hRH3.mem a u z).1
  ·exact(l _ h1).elim
 ·exact zwv _ _ q v hflat hrel

theorem PC.rc{f:FuncId}{ds:List D}{r:D}(h:PC P f ds r)(H:HM)(nx:Nat):RC P f ds H nx r:=by
 refine⟨h.2.2.1,fun s w y q p b x=>?_⟩;subst q;subst p
 let d:RS:={ s with H:=noH,nx:=0 }
 have m:∀k,¬owned d k:=by rintro k ⟨id,e,_⟩;exact absurd e (Zu _)
 exact PC_lift h (s1:=d) b ⟨fun a v l=>⟨(b.mem a v l).1,m _⟩,fun id o u=>(by cases u),fun i j t=>(t rfl).elim,fun g=>z2h (s:=s) (s':=d) (fun a v c=>c) _ _ (z8d g) (b.glob g)⟩ (z28 (s:=s) (s':=d) (fun a v c=>c) ds y h.1 x) (.inl fun a v c=>c)

theorem zkb{s:RS}{w:World}(h:RH P s w)(k:Nat):∀(ds:List D) (vs:List Value) (c:List D),relAll s ds vs->zgp (z3f P s.H k) ds=some c->relAll (s.shut w) c vs
 |[],vs,c,b,a=>by simp only[zgp,Z0]at a;subst a;simpa [relAll] using b
 |d::ds,vs,c,b,a=>by
  simp only[relAll]at b;obtain⟨v,q,rfl,l,m⟩:=b;simp only[zgp]at a;split at a
  ·rename_i j e o i;cases a;exact z0y (zgq h k d v j l o) (zkb h k ds q e m i)
  ·cases a
theorem PC.borrow{f:FuncId}{ds a:List D}{r:D}(h:PC P f a r)(i:flatD r=true)(k:Nat){H:HM}{nx:Nat}(l:zgp (z3f P H k) ds=some a):RC P f ds H nx r:=by
 refine⟨h.2.2.1,fun s w m e c b j=>?_⟩;subst e;subst c;obtain⟨o,d⟩:=zd8 b;exact PC_lift h (s1:=s.shut w) b d (zkb b k ds m a j l) (.inr i)
theorem PC.ac{f:FuncId}{ds:List D}{r:D}(h:PC P f ds r){H:HM}{nx:Nat}{K:D->HM->Nat->Prop}(b:K r H nx):AC P f ds H nx K :=
 AC.mono (h.rc H nx) fun _ _ _ ⟨a,h2,h3⟩=>by subst a;subst h2;subst h3;exact b
theorem RC.ac{f:FuncId}{ds:List D}{r:D}{H:HM}{nx:Nat}(h:RC P f ds H nx r){K:D->HM->Nat->Prop}(b:K r H nx):AC P f ds H nx K :=
 AC.mono h fun _ _ _ ⟨a,h2,h3⟩=>by subst a;subst h2;subst h3;exact b

end Abs
namespace Abs
open Go.RowKit
variable {P:Program}{own:List Nat}{Q:Exit->St->Prop}{st:St}

theorem awp_seq{a b:Code}(h:∀K:St->Prop,(∀st,awp P own b Q st->K st)->awp P own a (zo8 K Q) st):awp P own (.seq a b) Q st:=h _ fun st h=>⟨st,SealTo.refl st,h⟩
theorem awp_reg{id:Nat}{l:List Oper}(h:z2y P own (l.map (·.dst)) l (Q .normal) st):awp P own (.region id l.toArray false) Q st:=⟨fun h=>(by cases h),fun _=>h⟩
theorem zww{id:Nat}{l:List Oper}(a:zmk own l.toArray=true)(h:z46 P own (l.map (·.dst)) l (Q .normal) st):awp P own (.region id l.toArray true) Q st:=⟨fun _=>.inl ⟨a,h⟩,fun h=>(by cases h)⟩
theorem zqh{id:Nat}{l:List Oper}{b:Code}(h:∀K:St->Prop,(∀st,awp P own b Q st->K st)->z2y P own (l.map (·.dst)) l K st):awp P own (.seq (.region id l.toArray false) b) Q st :=
 awp_seq fun K a=>awp_reg (h K a)
theorem zqe{id:Nat}{l:List Oper}{b:Code}(a:zmk own l.toArray=true)(h:∀K:St->Prop,(∀st,awp P own b Q st->K st)->z46 P own (l.map (·.dst)) l K st):awp P own (.seq (.region id l.toArray true) b) Q st :=
 awp_seq fun K c=>zww a (h K c)
theorem zrv{K a:St->Prop}{Q b:Exit->St->Prop}(d:∀st,K st->a st)(h:∀e st,Q e st->b e st):∀e st,zo8 K Q e st->zo8 a b e st:=by
 intro e st c;cases e with
 |normal=>exact d st c
 |_=>exact h _ st c
theorem zc8{ops:List (Option Nat)}{K p:St->Prop}(h:∀st,K st->p st):∀(l:List Oper) (st:St),z2y P own ops l K st->z2y P own ops l p st
 |[],st,a=>h st a
 |o::l,st,a=>by
  simp only[z2y]at a⊢;split
  ·rename_i d;rw[d]at a;simp only at a;unfold opW at a⊢;split
   ·rename_i c;simp only[c]at a;split
    ·rename_i i;rw[i]at a;exact AC.mono a fun r H q m=>zc8 h l _ m
    ·rename_i i;rw[i]at a;exact AC.mono a fun r H q m=>zc8 h l _ m
    ·rename_i j k;split at a
     ·rename_i b;exact(j _ _ b).elim
     ·rename_i b;exact(k _ _ b).elim
     ·exact a
   ·rename_i c;split at a
    ·rename_i e;exact(c _ _ _ e).elim
    ·split at a
     ·exact zc8 h l _ a
     ·exact a
  ·rename_i d;rw[d]at a;exact zc8 h l _ a
  ·rename_i d;rw[d]at a;exact a
theorem z6p{ops:List (Option Nat)}{K s:St->Prop}(h:∀st,K st->s st):∀(l:List Oper) (st:St),z46 P own ops l K st->z46 P own ops l s st
 |[],st,a=>h st a
 |o::l,st,a=>by
  simp only[z46]at a⊢;split
  ·rename_i j;rw[j]at a;simp only at a;unfold opD at a⊢;split
   ·rename_i b;simp only[b]at a;split
    ·rename_i m;rw[m]at a;rcases a with ⟨c,v,r,e,i⟩|⟨c,r,e,i⟩|⟨c,u,d,H,w,e,t,i⟩
     ·exact .inl ⟨c,v,r,e,z6p h l _ i⟩
     ·exact .inr (.inl ⟨c,r,e,z6p h l _ i⟩)
     ·exact .inr (.inr ⟨c,u,d,H,w,e,t,z6p h l _ i⟩)
    ·rename_i m;split at a
     ·rename_i p;exact(m _ _ p).elim
     ·exact a
   ·rename_i b;split at a
    ·rename_i k;exact(b _ _ _ k).elim
    ·split at a
     ·split at a
      ·rename_i q;rw[if_pos q];exact z6p h l _ a
      ·cases a
     ·exact a
  ·rename_i j;rw[j]at a;exact z6p h l _ a
  ·rename_i j;rw[j]at a;exact a
theorem awpR_mono{ops:Array Oper}{K d:St->Prop}(h:∀st,K st->d st){st:St}(b:awpR P own ops K st):awpR P own ops d st:=by
 rcases b with ⟨c,b⟩|⟨a,c,i,b⟩
 ·exact .inl ⟨c,z6p h _ _ b⟩
 ·exact .inr ⟨a,c,i,z6p (fun j e=>⟨z6p h _ _ e.1,z6p h _ _ e.2⟩) _ _ b⟩
theorem z84:∀(c:Code) (j k:Exit->St->Prop) (st:St),(∀e st,j e st->k e st)->awp P own c j st->awp P own c k st
 | .skip,_,_,st,d,h=>d _ st h
 | .region _ _ _,_,_,st,d,h=>⟨fun p=>awpR_mono (d _) (h.1 p),fun p=>zc8 (d _) _ st (h.2 p)⟩
 | .seq a b,j,k,st,d,h=>z84 a _ _ st (zrv (fun _ ⟨i,hs,h⟩=>⟨i,hs,z84 b j k i d h⟩) d) h
 | .cond _ x y,j,k,st,d,h=>by
  obtain⟨t,m,o,r⟩:=h;exact⟨t,m,fun e=>z84 x j k st d (o e),fun e=>z84 y j k st d (r e)⟩
 | .block id c,j,k,st,d,h=>by
  refine z84 c _ _ st (fun e st l=>?_) h;cases e with
  |exit u =>
   simp only[zuj]at l⊢;split
   ·rename_i q;rw[if_pos q]at l;exact d _ _ l
   ·rename_i q;rw[if_neg q]at l;exact d _ _ l
  |_=>exact d _ _ l
 | .loop c,j,k,st,d,h=>by
  obtain⟨I,m,o⟩:=h;refine⟨I,m,fun n i s=>z84 c _ _ i (fun e st l=>?_) (o n i s)⟩;cases e with
  |normal=>exact l
  |_=>exact d _ _ l
 | .exit _,_,_,st,d,h=>d _ st h
 | .ret,_,_,st,d,h=>d _ st h
 | .rangeFunc ..,_,_,_,_,h=>h.elim
 | .scope _,_,_,_,_,h=>h.elim
 | .label _,_,_,_,_,h=>h.elim
 | .goto _,_,_,_,_,h=>h.elim
 | .refuse _,_,_,_,_,h=>h.elim
theorem zqj{a b c:Code}(h:awp P own (.seq a (.seq b c)) Q st):awp P own (.seq (.seq a b) c) Q st :=
 z84 a _ _ st (fun e st h=>by cases e<;>exact h) h
theorem zqm{c:Operand}{x y:Code}(t:Bool)(d:st.ev c=.bool t)(a:t=true->awp P own x Q st)(b:t=false->awp P own y Q st):awp P own (.cond c x y) Q st:=⟨t,d,a,b⟩
theorem zqi{id:Nat}{c:Code}(h:awp P own c (zuj id Q) st):awp P own (.block id c) Q st:=h
theorem zqn(h:Q .ret st):awp P own .ret Q st:=h
theorem zqk(h:Q .normal st):awp P own .skip Q st:=h
end Abs
namespace Abs
theorem buildD_eq{P:Program}{t:TypeId}{a:List (Nat×D)}:zb6 P t a=match z4t P t with
  |some b=>if z4l P t=true then (zom (fun i=>(z19 P t i).map fun(o,ft)=>(o,z0d P ft)) b a).map .agg else
    match arrT P t with
    |some (_,e)=>if z0d P e≠0 then (zom (fun i=>some (i*z0d P e,z0d P e)) b a).map .agg else none
    |none=>none
  |none=>none:=by
 unfold zb6;cases z4t P t with
 |none=>rfl
 |some b =>
  unfold z4l arrT;cases c:P.underlying t with
  |none=>rfl
  |some d=>cases d<;>simp
attribute [go_sem] buildD_eq
attribute [go_sem] z006 zhi z5g z9j z9k z5y z7w z1d z4x z11 zdm zfw zdn zax zom z21 zso binD zhj zsp unD lenD maxD minD zlj z7b z8z
attribute [go_sem] Zz ZS Zb Z9 Option.map_none Zr Option.bind_none if_true if_false Yb Zl Yj List.any_cons List.any_nil ZO Z4 and_self true_and and_true
end Abs
namespace Abs
open Go.RowKit

def z6q(o:Option D)(f:List Oper->(St->Prop)->St->Prop)(rest:List Oper)(K:St->Prop)(st:St)(dst:Option Nat):Prop:=match o with|some d=>f rest K (st.put dst d)|none=>False
def znd(e:TypeId)(o:Option (List D))(f:List Oper->(St->Prop)->St->Prop)(rest:List Oper)(K:St->Prop)(st:St)(dst:Option Nat):Prop :=
 match o with|some a=>f rest K ((st.withH (z0m st.H st.nx (some (.box e a))) (st.nx+1)).put dst (.ptr st.nx 0))|none=>False
def zl9(o:Option HM)(f:List Oper->(St->Prop)->St->Prop)(rest:List Oper)(K:St->Prop)(st:St)(dst:Option Nat):Prop:=match o with|some H=>f rest K ((st.withH H st.nx).put dst .any)|none=>False
def zkc(o:Option (D×HM×Nat))(f:List Oper->(St->Prop)->St->Prop)(rest:List Oper)(K:St->Prop)(st:St)(dst:Option Nat):Prop:=match o with|some (d,H,a)=>f rest K ((st.withH H a).put dst d)|none=>False
def zde(b:Bool)(p:Prop):Prop:=if b=true then p else False
def okA(own:List Nat)(dst:Option Nat)(st:St):Bool:=if z0s 7000000 own dst=true then decide (z3b own<=st.nx) else true
def okS(own:List Nat)(dst:Option Nat)(st:St):Bool:=if z0s 7000000 own dst=true/\zlk own dst=true then decide (z3b own<=st.nx) else true
def okQ(own:List Nat)(dst:Option Nat)(st:St)(x:D):Bool:=if z0s 7000000 own dst=true then (match x with | .osl id _=>decide (z3b own<=id/\z3b own<=st.nx)|_=>decide (z3b own<=st.nx)) else true
theorem za0(b:Bool):zde b False=False:=by unfold zde;split<;>rfl
def stepG(g:Option Bool)(f:List Oper->(St->Prop)->St->Prop)(o:Oper)(rest:List Oper)(K:St->Prop)(st:St):Prop:=match g with|some true=>f (o::rest) K st|some false=>f rest K (st.put o.dst (.tup []))|none=>False
section
variable {f:List Oper->(St->Prop)->St->Prop}{rest:List Oper}{K:St->Prop}{st:St}{dst:Option Nat}
@[go_sem]theorem stepK_true(p:Prop):zde true p=p:=by unfold zde;simp
@[go_sem]theorem stepO_some(d:D):z6q (some d) f rest K st dst=f rest K (st.put dst d):=rfl
@[go_sem]theorem stepB_some(e:TypeId)(cs:List D):znd e (some cs) f rest K st dst=f rest K ((st.withH (z0m st.H st.nx (some (.box e cs))) (st.nx+1)).put dst (.ptr st.nx 0)):=rfl
@[go_sem]theorem stepH_some(H:HM):zl9 (some H) f rest K st dst=f rest K ((st.withH H st.nx).put dst .any):=rfl
@[go_sem]theorem step3_some(d:D)(H:HM)(nx:Nat):zkc (some (d,H,nx)) f rest K st dst=f rest K ((st.withH H nx).put dst d):=rfl
@[go_sem]theorem stepG_true(o:Oper):stepG (some true) f o rest K st=f (o::rest) K st:=rfl
@[go_sem]theorem stepG_false{a:Op}{ty:TypeId}{pos:String}{aft:Array Edge}{g:Option (Nat×Bool)}:stepG (some false) f ⟨dst,a,ty,pos,aft,g⟩ rest K st=f rest K (st.put dst (.tup [])):=rfl
end

def zaq(P:Program)(own:List Nat)(dst:Option Nat)(ty:TypeId)(st:St)(x:D):Option (D×HM×Nat) :=
 match x with
 | .nil=>if zlk own dst=true then (z3g P ty).map fun e=>(.osl st.nx 0,z0m st.H st.nx (some (.row e 0 [])),st.nx+1) else some (.nil,st.H,st.nx)
 |d=>some (d,st.H,st.nx)
def z4i(P:Program)(own:List Nat)(dst:Option Nat)(st:St)(t:TypeId)(len:Nat)(b:List Nat)(els:List D):Option (D×HM×Nat) :=
 match z3g P t with
 |some e =>
  if z0d P e≠0/\z9l b 0 len=true/\len*z0d P e<=16777216/\(len=0 \/ z5f P e=true) then
   (z21 (z0d P e) els).bind fun a =>
    if zlk own dst=true then some (.osl st.nx len,z0m st.H st.nx (some (.row e len a)),st.nx+1)
    else if z0s 1000000 own dst=true/\len=0 then some (.e0,st.H,st.nx)
    else some (.rsl true (z0d P e) els,st.H,st.nx)
  else none
 |none=>none
def zar(P:Program)(own:List Nat)(dst:Option Nat)(st:St)(t:TypeId)(x y:D):Option (D×HM×Nat) :=
 if z0s 1000000 own dst=true then (zkr P st.H t x y).map fun d=>(d,st.H,st.nx)
 else if z0s 2000000 own dst=true then (z8z P st.H st.nx t x y).bind (zks P)
 else z8z P st.H st.nx t x y
def za1(P:Program)(st:St)(t:TypeId)(l c:D):Option (D×HM×Nat) :=
 match z3g P t,l,c with
 |some e,.int _ l,.int _ c=>if l=c/\0<=l/\l.toNat*z2l P e<=140737488355328/\l<=9223372036854775807/\0<z0d P e then
   (z4t P e).map fun a=>(.osl st.nx l.toNat,z0m st.H st.nx (some (.row e l.toNat (List.replicate l.toNat a).flatten)),st.nx+1) else none
 |_,_,_=>none
def fieldD(P:Program)(t:TypeId)(x:D)(f:Nat):Option D :=
 match z19 P t f,x with
 |some (o,b),.agg a=>z9j P b a o
 |_,_=>none
def z85(x:D)(i:Nat):Option D:=match x with | .tup a=>a[i]?|_=>none
def z6r(x:D):Option D:=match x with | .rptr d=>some (.rptr d) | .ptr id a=>some (.ptr id a)|_=>none
attribute [go_sem] z0s isG okG zed zdf hmG z3b cutB okA okS okQ okT objD okU zrm ze8 tcM zar zkr zks zv7 pureD pureD.pureL
@[go_sem]theorem groupD_zero(a:Bool)(sz:Nat)(cs:List D):z23 a sz 0 cs=[]:=rfl
@[go_sem]theorem groupD_cons(a:Bool)(sz n:Nat)(c:D)(cs:List D):z23 a sz (n+1) (c::cs)=(if a=true then .agg ((c::cs).take sz) else c)::z23 a sz n ((c::cs).drop sz):=rfl
attribute [go_sem] zec zci esD lookR updR z9f eqK z94 zli zch
attribute [go_sem] zlk z9l zaq z4i convD convS zku zv8 zkv u8T za1 fieldD z85 z6r

@[go_sem]theorem ev_tmp(st:St)(i:Nat):st.ev (.tmp i)=st.t i:=rfl
@[go_sem]theorem ev_const(st:St)(v:Value):st.ev (.const v)=z006 v:=rfl
@[go_sem]theorem ev_func(st:St)(f:FuncId):st.ev (.func f)=.fn f []:=rfl
@[go_sem]theorem ev_global(st:St)(g:Nat):st.ev (.global g)=globD g:=rfl
attribute [go_sem] globD
@[go_sem]theorem put_none(st:St)(d:D):st.put none d=st:=rfl
@[go_sem]theorem t_put(st:St)(i j:Nat)(d:D):(st.put (some i) d).t j=cond (j==i) d (st.t j):=by
 simp only[St.put,updT]
 by_cases h:j=i
 ·subst h;simp
 ·have:(j==i)=false:=by simpa using h
  rw[if_neg h,this];rfl
attribute [go_sem] id_eq Zl Yj
@[go_sem]theorem H_put(st:St)(dst:Option Nat)(d:D):(st.put dst d).H=st.H:=put_H st dst d
@[go_sem]theorem nx_put(st:St)(dst:Option Nat)(d:D):(st.put dst d).nx=st.nx:=put_nx st dst d
@[go_sem]theorem t_withH(st:St)(H:HM)(nx j:Nat):(st.withH H nx).t j=st.t j:=rfl
@[go_sem]theorem H_withH(st:St)(H:HM)(nx:Nat):(st.withH H nx).H=H:=rfl
@[go_sem]theorem zwx(st:St)(H:HM)(nx:Nat):(st.withH H nx).nx=nx:=rfl
@[go_sem]theorem withH_id(st:St):st.withH st.H st.nx=st:=rfl
@[go_sem]theorem t_st0(ds:List D)(H:HM)(nx i:Nat):(st0 ds H nx).t i=(ds[i]?).getD .any:=rfl
@[go_sem]theorem H_st0(ds:List D)(H:HM)(nx:Nat):(st0 ds H nx).H=H:=rfl
@[go_sem]theorem nx_st0(ds:List D)(H:HM)(nx:Nat):(st0 ds H nx).nx=nx:=rfl
@[go_sem]theorem updH_at(H:HM)(i j:Nat)(o:Option HObj):z0m H i o j=cond (j==i) o (H j):=by
 unfold z0m
 by_cases h:j=i
 ·subst h;simp
 ·have:(j==i)=false:=by simpa using h
  rw[if_neg h,this];rfl
attribute [go_sem] cond_true cond_false
@[go_sem]theorem beq_tt(b:Bool):(b==true)=b:=by cases b<;>rfl
@[go_sem]theorem beq_ff(b:Bool):(b==false) = !b:=by cases b<;>rfl

section
variable {P:Program}{own:List Nat}{ops:List (Option Nat)}{rest:List Oper}{K:St->Prop}{st:St}{dst:Option Nat}{ty:TypeId}{pos:String}{aft:Array Edge}
@[go_sem]theorem awpL_nil:z2y P own ops [] K st=K st:=rfl
@[go_sem]theorem awpD_nil:z46 P own ops [] K st=K st:=rfl
def zkd(ops:List (Option Nat))(st:St)(j:Nat)(a:Bool):Option Bool :=
 match (ops[j]?).bind id with
 |some i=>match st.t i with
  | .bool b=>some (b==a)
  | .tup _=>some false
  |_=>none
 |none=>none
attribute [go_sem] zkd
@[go_sem]theorem awpL_guard{b:Op}{j:Nat}{a:Bool}:z2y P own ops (⟨dst,b,ty,pos,aft,some (j,a)⟩::rest) K st=stepG (zkd ops st j a) (z2y P own ops) ⟨dst,b,ty,pos,aft,none⟩ rest K st:=by
 have h:zh8 ops st ⟨dst,b,ty,pos,aft,some (j,a)⟩=zkd ops st j a:=rfl;have c:zh8 ops st ⟨dst,b,ty,pos,aft,none⟩=some true:=rfl;simp only[z2y,h,c];cases zkd ops st j a with
 |none=>rfl
 |some g=>cases g<;>rfl
@[go_sem]theorem awpD_guard{b:Op}{j:Nat}{a:Bool}:z46 P own ops (⟨dst,b,ty,pos,aft,some (j,a)⟩::rest) K st=stepG (zkd ops st j a) (z46 P own ops) ⟨dst,b,ty,pos,aft,none⟩ rest K st:=by
 have h:zh8 ops st ⟨dst,b,ty,pos,aft,some (j,a)⟩=zkd ops st j a:=rfl;have c:zh8 ops st ⟨dst,b,ty,pos,aft,none⟩=some true:=rfl;simp only[z46,h,c];cases zkd ops st j a with
 |none=>rfl
 |some g=>cases g<;>rfl
@[go_sem]theorem awpL_move{x:Operand}:z2y P own ops (⟨dst,.move x,ty,pos,aft,none⟩::rest) K st=z2y P own ops rest K (st.put dst (st.ev x)):=by
 rfl
@[go_sem]theorem awpD_move{x:Operand}:z46 P own ops (⟨dst,.move x,ty,pos,aft,none⟩::rest) K st=z46 P own ops rest K (st.put dst (st.ev x)):=by
 rfl
@[go_sem]theorem awpL_assign{x:Operand}:z2y P own ops (⟨dst,.assign x,ty,pos,aft,none⟩::rest) K st=zkc (zaq P own dst ty st (st.ev x)) (z2y P own ops) rest K st dst:=by
 show (match opR P own ⟨dst,.assign x,ty,pos,aft,none⟩ st with|some (d,H,nx)=>z2y P own ops rest K ({ st with H:=H,nx:=nx }.put dst d)|none=>False)=_;have h:opR P own ⟨dst,.assign x,ty,pos,aft,none⟩ st=zaq P own dst ty st (st.ev x):=by
  first|rfl|(simp only[opR,zaq];split<;>rfl)
 rw[h];cases (zaq P own dst ty st (st.ev x))<;>rfl
@[go_sem]theorem awpD_assign{x:Operand}:z46 P own ops (⟨dst,.assign x,ty,pos,aft,none⟩::rest) K st=zkc (zaq P own dst ty st (st.ev x)) (z46 P own ops) rest K st dst:=by
 show (match opR P own ⟨dst,.assign x,ty,pos,aft,none⟩ st with|some (d,H,nx)=>z46 P own ops rest K ({ st with H:=H,nx:=nx }.put dst d)|none=>False)=_;have h:opR P own ⟨dst,.assign x,ty,pos,aft,none⟩ st=zaq P own dst ty st (st.ev x):=by
  first|rfl|(simp only[opR,zaq];split<;>rfl)
 rw[h];cases (zaq P own dst ty st (st.ev x))<;>rfl
@[go_sem]theorem awpL_pick{c a b:Operand}:z2y P own ops (⟨dst,.pick c a b,ty,pos,aft,none⟩::rest) K st=z6q (zlj (st.ev c) (st.ev a) (st.ev b)) (z2y P own ops) rest K st dst:=by
 show (match opR P own ⟨dst,.pick c a b,ty,pos,aft,none⟩ st with|some (d,H,nx)=>z2y P own ops rest K ({ st with H:=H,nx:=nx }.put dst d)|none=>False)=_;have h:opR P own ⟨dst,.pick c a b,ty,pos,aft,none⟩ st=st.keep (zlj (st.ev c) (st.ev a) (st.ev b)):=by
  first|rfl|simp only[opR]
 rw[h];cases (zlj (st.ev c) (st.ev a) (st.ev b))<;>rfl
@[go_sem]theorem awpD_pick{c a b:Operand}:z46 P own ops (⟨dst,.pick c a b,ty,pos,aft,none⟩::rest) K st=z6q (zlj (st.ev c) (st.ev a) (st.ev b)) (z46 P own ops) rest K st dst:=by
 show (match opR P own ⟨dst,.pick c a b,ty,pos,aft,none⟩ st with|some (d,H,nx)=>z46 P own ops rest K ({ st with H:=H,nx:=nx }.put dst d)|none=>False)=_;have h:opR P own ⟨dst,.pick c a b,ty,pos,aft,none⟩ st=st.keep (zlj (st.ev c) (st.ev a) (st.ev b)):=by
  first|rfl|simp only[opR]
 rw[h];cases (zlj (st.ev c) (st.ev a) (st.ev b))<;>rfl
@[go_sem]theorem awpL_alloc{e:TypeId}:z2y P own ops (⟨dst,.alloc e,ty,pos,aft,none⟩::rest) K st=znd e (z4t P e) (z2y P own ops) rest K st dst:=by
 show (match opR P own ⟨dst,.alloc e,ty,pos,aft,none⟩ st with|some (d,H,nx)=>z2y P own ops rest K ({ st with H:=H,nx:=nx }.put dst d)|none=>False)=_;have h:opR P own ⟨dst,.alloc e,ty,pos,aft,none⟩ st=(z4t P e).map fun x=>(.ptr st.nx 0,z0m st.H st.nx (some (.box e x)),st.nx+1):=by rfl
 rw[h];cases (z4t P e)<;>rfl
@[go_sem]theorem awpD_alloc{e:TypeId}:z46 P own ops (⟨dst,.alloc e,ty,pos,aft,none⟩::rest) K st=zde (okA own dst st) (znd e (z4t P e) (z46 P own ops) rest K st dst):=by
 show (match opR P own ⟨dst,.alloc e,ty,pos,aft,none⟩ st with|some (d,H,nx)=>zde (okA own dst st) (z46 P own ops rest K ({ st with H:=H,nx:=nx }.put dst d))|none=>False)=_;have h:opR P own ⟨dst,.alloc e,ty,pos,aft,none⟩ st=(z4t P e).map fun x=>(.ptr st.nx 0,z0m st.H st.nx (some (.box e x)),st.nx+1):=by rfl
 rw[h];cases (z4t P e)<;>first|exact(za0 _).symm|rfl
@[go_sem]theorem awpL_box{e:TypeId}{x:Operand}:z2y P own ops (⟨dst,.box e x,ty,pos,aft,none⟩::rest) K st=znd e (z5g (st.ev x)) (z2y P own ops) rest K st dst:=by
 show (match opR P own ⟨dst,.box e x,ty,pos,aft,none⟩ st with|some (d,H,nx)=>z2y P own ops rest K ({ st with H:=H,nx:=nx }.put dst d)|none=>False)=_;have h:opR P own ⟨dst,.box e x,ty,pos,aft,none⟩ st=(z5g (st.ev x)).map fun x=>(.ptr st.nx 0,z0m st.H st.nx (some (.box e x)),st.nx+1):=by rfl
 rw[h];cases (z5g (st.ev x))<;>rfl
@[go_sem]theorem awpD_box{e:TypeId}{x:Operand}:z46 P own ops (⟨dst,.box e x,ty,pos,aft,none⟩::rest) K st=znd e (z5g (st.ev x)) (z46 P own ops) rest K st dst:=by
 show (match opR P own ⟨dst,.box e x,ty,pos,aft,none⟩ st with|some (d,H,nx)=>z46 P own ops rest K ({ st with H:=H,nx:=nx }.put dst d)|none=>False)=_;have h:opR P own ⟨dst,.box e x,ty,pos,aft,none⟩ st=(z5g (st.ev x)).map fun x=>(.ptr st.nx 0,z0m st.H st.nx (some (.box e x)),st.nx+1):=by rfl
 rw[h];cases (z5g (st.ev x))<;>rfl
@[go_sem]theorem awpL_build{t:TypeId}{a:Array (Nat×Operand)}:z2y P own ops (⟨dst,.build t a,ty,pos,aft,none⟩::rest) K st=z6q (zb6 P t (a.toList.map fun(i,x)=>(i,st.ev x))) (z2y P own ops) rest K st dst:=by
 show (match opR P own ⟨dst,.build t a,ty,pos,aft,none⟩ st with|some (d,H,nx)=>z2y P own ops rest K ({ st with H:=H,nx:=nx }.put dst d)|none=>False)=_;have h:opR P own ⟨dst,.build t a,ty,pos,aft,none⟩ st=st.keep (zb6 P t (a.toList.map fun(i,x)=>(i,st.ev x))):=by
  first|rfl|simp only[opR]
 rw[h];cases (zb6 P t (a.toList.map fun(i,x)=>(i,st.ev x)))<;>rfl
@[go_sem]theorem awpD_build{t:TypeId}{a:Array (Nat×Operand)}:z46 P own ops (⟨dst,.build t a,ty,pos,aft,none⟩::rest) K st=z6q (zb6 P t (a.toList.map fun(i,x)=>(i,st.ev x))) (z46 P own ops) rest K st dst:=by
 show (match opR P own ⟨dst,.build t a,ty,pos,aft,none⟩ st with|some (d,H,nx)=>z46 P own ops rest K ({ st with H:=H,nx:=nx }.put dst d)|none=>False)=_;have h:opR P own ⟨dst,.build t a,ty,pos,aft,none⟩ st=st.keep (zb6 P t (a.toList.map fun(i,x)=>(i,st.ev x))):=by
  first|rfl|simp only[opR]
 rw[h];cases (zb6 P t (a.toList.map fun(i,x)=>(i,st.ev x)))<;>rfl
@[go_sem]theorem awpL_buildSlice{t:TypeId}{len:Nat}{a:Array (Nat×Operand)}:z2y P own ops (⟨dst,.buildSlice t len a,ty,pos,aft,none⟩::rest) K st=zkc (z4i P own dst st t len (a.toList.map (·.1)) (a.toList.map fun x=>st.ev x.2)) (z2y P own ops) rest K st dst:=by
 show (match opR P own ⟨dst,.buildSlice t len a,ty,pos,aft,none⟩ st with|some (d,H,nx)=>z2y P own ops rest K ({ st with H:=H,nx:=nx }.put dst d)|none=>False)=_;have h:opR P own ⟨dst,.buildSlice t len a,ty,pos,aft,none⟩ st=z4i P own dst st t len (a.toList.map (·.1)) (a.toList.map fun x=>st.ev x.2):=by
  first|rfl|(simp only[opR,z4i])
 rw[h];cases (z4i P own dst st t len (a.toList.map (·.1)) (a.toList.map fun x=>st.ev x.2))<;>rfl
@[go_sem]theorem awpD_buildSlice{t:TypeId}{len:Nat}{a:Array (Nat×Operand)}:z46 P own ops (⟨dst,.buildSlice t len a,ty,pos,aft,none⟩::rest) K st=zde (okS own dst st) (zkc (z4i P own dst st t len (a.toList.map (·.1)) (a.toList.map fun x=>st.ev x.2)) (z46 P own ops) rest K st dst):=by
 show (match opR P own ⟨dst,.buildSlice t len a,ty,pos,aft,none⟩ st with|some (d,H,nx)=>zde (okS own dst st) (z46 P own ops rest K ({ st with H:=H,nx:=nx }.put dst d))|none=>False)=_;have h:opR P own ⟨dst,.buildSlice t len a,ty,pos,aft,none⟩ st=z4i P own dst st t len (a.toList.map (·.1)) (a.toList.map fun x=>st.ev x.2):=by
  first|rfl|(simp only[opR,z4i])
 rw[h];cases (z4i P own dst st t len (a.toList.map (·.1)) (a.toList.map fun x=>st.ev x.2))<;>first|exact(za0 _).symm|rfl
@[go_sem]theorem awpL_load{t:TypeId}{p:Operand}:z2y P own ops (⟨dst,.load t p,ty,pos,aft,none⟩::rest) K st=z6q (zed P own dst st.H st.nx t (st.ev p)) (z2y P own ops) rest K st dst:=by
 show (match opR P own ⟨dst,.load t p,ty,pos,aft,none⟩ st with|some (d,H,nx)=>z2y P own ops rest K ({ st with H:=H,nx:=nx }.put dst d)|none=>False)=_;have h:opR P own ⟨dst,.load t p,ty,pos,aft,none⟩ st=st.keep (zed P own dst st.H st.nx t (st.ev p)):=by
  first|rfl|simp only[opR]
 rw[h];cases (zed P own dst st.H st.nx t (st.ev p))<;>rfl
@[go_sem]theorem awpD_load{t:TypeId}{p:Operand}:z46 P own ops (⟨dst,.load t p,ty,pos,aft,none⟩::rest) K st=zde (okT own dst (st.ev p)&&okU own dst (st.ev p)&&okG own dst st.nx (st.ev p)) (z6q (zed P own dst st.H st.nx t (st.ev p)) (z46 P own ops) rest K st dst):=by
 show (match opR P own ⟨dst,.load t p,ty,pos,aft,none⟩ st with|some (d,H,nx)=>zde (okT own dst (st.ev p)&&okU own dst (st.ev p)&&okG own dst st.nx (st.ev p)) (z46 P own ops rest K ({ st with H:=H,nx:=nx }.put dst d))|none=>False)=_;have h:opR P own ⟨dst,.load t p,ty,pos,aft,none⟩ st=st.keep (zed P own dst st.H st.nx t (st.ev p)):=by
  first|rfl|simp only[opR]
 rw[h];cases (zed P own dst st.H st.nx t (st.ev p))<;>first|exact(za0 _).symm|rfl
@[go_sem]theorem awpL_store{t:TypeId}{p v:Operand}:z2y P own ops (⟨dst,.store t p v,ty,pos,aft,none⟩::rest) K st=zl9 (z7w P st.H t (st.ev p) (st.ev v)) (z2y P own ops) rest K st dst:=by
 show (match opR P own ⟨dst,.store t p v,ty,pos,aft,none⟩ st with|some (d,H,nx)=>z2y P own ops rest K ({ st with H:=H,nx:=nx }.put dst d)|none=>False)=_;have h:opR P own ⟨dst,.store t p v,ty,pos,aft,none⟩ st=(z7w P st.H t (st.ev p) (st.ev v)).map fun x=>(.any,x,st.nx):=by rfl
 rw[h];cases (z7w P st.H t (st.ev p) (st.ev v))<;>rfl
@[go_sem]theorem awpD_store{t:TypeId}{p v:Operand}:z46 P own ops (⟨dst,.store t p v,ty,pos,aft,none⟩::rest) K st=zde (okT own (zrm p) (st.ev p)) (zl9 (z7w P st.H t (st.ev p) (st.ev v)) (z46 P own ops) rest K st dst):=by
 show (match opR P own ⟨dst,.store t p v,ty,pos,aft,none⟩ st with|some (d,H,nx)=>zde (okT own (zrm p) (st.ev p)) (z46 P own ops rest K ({ st with H:=H,nx:=nx }.put dst d))|none=>False)=_;have h:opR P own ⟨dst,.store t p v,ty,pos,aft,none⟩ st=(z7w P st.H t (st.ev p) (st.ev v)).map fun x=>(.any,x,st.nx):=by rfl
 rw[h];cases (z7w P st.H t (st.ev p) (st.ev v))<;>first|exact(za0 _).symm|rfl
@[go_sem]theorem awpL_makeMap{t:TypeId}:z2y P own ops (⟨dst,.makeMap t none,ty,pos,aft,none⟩::rest) K st=zkc ((zxd P t).map fun _=>(.mp st.nx,z0m st.H st.nx (some (.map [])),st.nx+1)) (z2y P own ops) rest K st dst:=by
 show (match opR P own ⟨dst,.makeMap t none,ty,pos,aft,none⟩ st with|some (d,H,nx)=>z2y P own ops rest K ({ st with H:=H,nx:=nx }.put dst d)|none=>False)=_;have h:opR P own ⟨dst,.makeMap t none,ty,pos,aft,none⟩ st=(zxd P t).map fun _=>(.mp st.nx,z0m st.H st.nx (some (.map [])),st.nx+1):=by rfl
 rw[h];cases zxd P t<;>rfl
@[go_sem]theorem awpL_range{t:TypeId}{x:Operand}:z2y P own ops (⟨dst,.range t x,ty,pos,aft,none⟩::rest) K st=zkc ((zku P t (st.ev x)).map fun q=>(.it st.nx,z0m st.H st.nx (some (.raw q)),st.nx+1)) (z2y P own ops) rest K st dst:=by
 show (match opR P own ⟨dst,.range t x,ty,pos,aft,none⟩ st with|some (d,H,nx)=>z2y P own ops rest K ({ st with H:=H,nx:=nx }.put dst d)|none=>False)=_;have h:opR P own ⟨dst,.range t x,ty,pos,aft,none⟩ st=(zku P t (st.ev x)).map fun q=>(.it st.nx,z0m st.H st.nx (some (.raw q)),st.nx+1):=by rfl
 rw[h];cases zku P t (st.ev x)<;>rfl
@[go_sem]theorem awpL_next{x:Operand}{b:Bool}:z2y P own ops (⟨dst,.next x b,ty,pos,aft,none⟩::rest) K st=zkc (zv8 st.H st.nx b (st.ev x)) (z2y P own ops) rest K st dst:=by
 show (match opR P own ⟨dst,.next x b,ty,pos,aft,none⟩ st with|some (d,H,nx)=>z2y P own ops rest K ({ st with H:=H,nx:=nx }.put dst d)|none=>False)=_;have h:opR P own ⟨dst,.next x b,ty,pos,aft,none⟩ st=zv8 st.H st.nx b (st.ev x):=by rfl
 rw[h];rcases zv8 st.H st.nx b (st.ev x)with _|⟨d,H,nx⟩<;>rfl
@[go_sem]theorem awpL_lookup{t:TypeId}{x k:Operand}{a:Bool}:z2y P own ops (⟨dst,.lookup t x k a,ty,pos,aft,none⟩::rest) K st=z6q (zec P st.H t (st.ev x) (st.ev k) a) (z2y P own ops) rest K st dst:=by
 show (match opR P own ⟨dst,.lookup t x k a,ty,pos,aft,none⟩ st with|some (d,H,nx)=>z2y P own ops rest K ({ st with H:=H,nx:=nx }.put dst d)|none=>False)=_;have h:opR P own ⟨dst,.lookup t x k a,ty,pos,aft,none⟩ st=st.keep (zec P st.H t (st.ev x) (st.ev k) a):=by rfl
 rw[h];cases zec P st.H t (st.ev x) (st.ev k) a<;>rfl
@[go_sem]theorem awpL_mapUpdate{t:TypeId}{m k x:Operand}:z2y P own ops (⟨dst,.mapUpdate t m k x,ty,pos,aft,none⟩::rest) K st=zl9 (zci P st.H t (st.ev m) (st.ev k) (st.ev x)) (z2y P own ops) rest K st dst:=by
 show (match opR P own ⟨dst,.mapUpdate t m k x,ty,pos,aft,none⟩ st with|some (d,H,nx)=>z2y P own ops rest K ({ st with H:=H,nx:=nx }.put dst d)|none=>False)=_;have h:opR P own ⟨dst,.mapUpdate t m k x,ty,pos,aft,none⟩ st=(zci P st.H t (st.ev m) (st.ev k) (st.ev x)).map fun x=>(.any,x,st.nx):=by rfl
 rw[h];cases zci P st.H t (st.ev m) (st.ev k) (st.ev x)<;>rfl
@[go_sem]theorem awpL_binOp{a:BinOp}{t u:TypeId}{x y:Operand}:z2y P own ops (⟨dst,.binOp a t x y u,ty,pos,aft,none⟩::rest) K st=z6q (binD P a t (st.ev x) (st.ev y)) (z2y P own ops) rest K st dst:=by
 show (match opR P own ⟨dst,.binOp a t x y u,ty,pos,aft,none⟩ st with|some (d,H,nx)=>z2y P own ops rest K ({ st with H:=H,nx:=nx }.put dst d)|none=>False)=_;have h:opR P own ⟨dst,.binOp a t x y u,ty,pos,aft,none⟩ st=st.keep (binD P a t (st.ev x) (st.ev y)):=by
  first|rfl|simp only[opR]
 rw[h];cases (binD P a t (st.ev x) (st.ev y))<;>rfl
@[go_sem]theorem awpD_binOp{a:BinOp}{t u:TypeId}{x y:Operand}:z46 P own ops (⟨dst,.binOp a t x y u,ty,pos,aft,none⟩::rest) K st=z6q (binD P a t (st.ev x) (st.ev y)) (z46 P own ops) rest K st dst:=by
 show (match opR P own ⟨dst,.binOp a t x y u,ty,pos,aft,none⟩ st with|some (d,H,nx)=>z46 P own ops rest K ({ st with H:=H,nx:=nx }.put dst d)|none=>False)=_;have h:opR P own ⟨dst,.binOp a t x y u,ty,pos,aft,none⟩ st=st.keep (binD P a t (st.ev x) (st.ev y)):=by
  first|rfl|simp only[opR]
 rw[h];cases (binD P a t (st.ev x) (st.ev y))<;>rfl
@[go_sem]theorem awpL_unOp{a:UnOp}{t:TypeId}{x:Operand}:z2y P own ops (⟨dst,.unOp a t x,ty,pos,aft,none⟩::rest) K st=z6q (unD a (st.ev x)) (z2y P own ops) rest K st dst:=by
 show (match opR P own ⟨dst,.unOp a t x,ty,pos,aft,none⟩ st with|some (d,H,nx)=>z2y P own ops rest K ({ st with H:=H,nx:=nx }.put dst d)|none=>False)=_;have h:opR P own ⟨dst,.unOp a t x,ty,pos,aft,none⟩ st=st.keep (unD a (st.ev x)):=by
  first|rfl|simp only[opR]
 rw[h];cases (unD a (st.ev x))<;>rfl
@[go_sem]theorem awpD_unOp{a:UnOp}{t:TypeId}{x:Operand}:z46 P own ops (⟨dst,.unOp a t x,ty,pos,aft,none⟩::rest) K st=z6q (unD a (st.ev x)) (z46 P own ops) rest K st dst:=by
 show (match opR P own ⟨dst,.unOp a t x,ty,pos,aft,none⟩ st with|some (d,H,nx)=>z46 P own ops rest K ({ st with H:=H,nx:=nx }.put dst d)|none=>False)=_;have h:opR P own ⟨dst,.unOp a t x,ty,pos,aft,none⟩ st=st.keep (unD a (st.ev x)):=by
  first|rfl|simp only[opR]
 rw[h];cases (unD a (st.ev x))<;>rfl
@[go_sem]theorem awpL_convert{s t:TypeId}{x:Operand}:z2y P own ops (⟨dst,.convert s t x,ty,pos,aft,none⟩::rest) K st=z6q (convD P s t (st.ev x)) (z2y P own ops) rest K st dst:=by
 show (match opR P own ⟨dst,.convert s t x,ty,pos,aft,none⟩ st with|some (d,H,nx)=>z2y P own ops rest K ({ st with H:=H,nx:=nx }.put dst d)|none=>False)=_;have h:opR P own ⟨dst,.convert s t x,ty,pos,aft,none⟩ st=st.keep (convD P s t (st.ev x)):=by
  first|rfl|simp only[opR]
 rw[h];cases (convD P s t (st.ev x))<;>rfl
@[go_sem]theorem awpL_makeFunc{f:FuncId}{cap:Array Operand}:z2y P own ops (⟨dst,.makeFunc (.func f) #[] cap,ty,pos,aft,none⟩::rest) K st=z2y P own ops rest K (st.put dst (.fn f (cap.toList.map st.ev))):=by
 rfl
@[go_sem]theorem awpL_makeSlice{t:TypeId}{l c:Operand}:z2y P own ops (⟨dst,.makeSlice t l c,ty,pos,aft,none⟩::rest) K st=zkc (za1 P st t (st.ev l) (st.ev c)) (z2y P own ops) rest K st dst:=by
 show (match opR P own ⟨dst,.makeSlice t l c,ty,pos,aft,none⟩ st with|some (d,H,nx)=>z2y P own ops rest K ({ st with H:=H,nx:=nx }.put dst d)|none=>False)=_;have h:opR P own ⟨dst,.makeSlice t l c,ty,pos,aft,none⟩ st=za1 P st t (st.ev l) (st.ev c):=by
  first|rfl|(simp only[opR,za1];split<;>rfl)
 rw[h];cases (za1 P st t (st.ev l) (st.ev c))<;>rfl
@[go_sem]theorem awpL_slice{t:TypeId}{x:Operand}{lo hi:Option Operand}:z2y P own ops (⟨dst,.slice t x lo hi none,ty,pos,aft,none⟩::rest) K st=z6q (zdn P t (st.ev x) (lo.map st.ev) (hi.map st.ev)) (z2y P own ops) rest K st dst:=by
 show (match opR P own ⟨dst,.slice t x lo hi none,ty,pos,aft,none⟩ st with|some (d,H,nx)=>z2y P own ops rest K ({ st with H:=H,nx:=nx }.put dst d)|none=>False)=_;have h:opR P own ⟨dst,.slice t x lo hi none,ty,pos,aft,none⟩ st=st.keep (zdn P t (st.ev x) (lo.map st.ev) (hi.map st.ev)):=by
  first|rfl|simp only[opR]
 rw[h];cases (zdn P t (st.ev x) (lo.map st.ev) (hi.map st.ev))<;>rfl
@[go_sem]theorem awpD_slice{t:TypeId}{x:Operand}{lo hi:Option Operand}:z46 P own ops (⟨dst,.slice t x lo hi none,ty,pos,aft,none⟩::rest) K st=z6q (zdn P t (st.ev x) (lo.map st.ev) (hi.map st.ev)) (z46 P own ops) rest K st dst:=by
 show (match opR P own ⟨dst,.slice t x lo hi none,ty,pos,aft,none⟩ st with|some (d,H,nx)=>z46 P own ops rest K ({ st with H:=H,nx:=nx }.put dst d)|none=>False)=_;have h:opR P own ⟨dst,.slice t x lo hi none,ty,pos,aft,none⟩ st=st.keep (zdn P t (st.ev x) (lo.map st.ev) (hi.map st.ev)):=by
  first|rfl|simp only[opR]
 rw[h];cases (zdn P t (st.ev x) (lo.map st.ev) (hi.map st.ev))<;>rfl
@[go_sem]theorem awpD_slice3{t:TypeId}{x m:Operand}{lo hi:Option Operand}:z46 P own ops (⟨dst,.slice t x lo hi (some m),ty,pos,aft,none⟩::rest) K st=z6q (zax P t (st.ev x) (lo.map st.ev) (hi.map st.ev) (st.ev m)) (z46 P own ops) rest K st dst:=by
 show (match opR P own ⟨dst,.slice t x lo hi (some m),ty,pos,aft,none⟩ st with|some (d,H,nx)=>z46 P own ops rest K ({ st with H:=H,nx:=nx }.put dst d)|none=>False)=_;have h:opR P own ⟨dst,.slice t x lo hi (some m),ty,pos,aft,none⟩ st=st.keep (zax P t (st.ev x) (lo.map st.ev) (hi.map st.ev) (st.ev m)):=by
  first|rfl|simp only[opR]
 rw[h];cases (zax P t (st.ev x) (lo.map st.ev) (hi.map st.ev) (st.ev m))<;>rfl
@[go_sem]theorem awpL_fieldAddr{t:TypeId}{x:Operand}{f:Nat}:z2y P own ops (⟨dst,.fieldAddr t x f,ty,pos,aft,none⟩::rest) K st=z6q (z4x P t (st.ev x) f) (z2y P own ops) rest K st dst:=by
 show (match opR P own ⟨dst,.fieldAddr t x f,ty,pos,aft,none⟩ st with|some (d,H,nx)=>z2y P own ops rest K ({ st with H:=H,nx:=nx }.put dst d)|none=>False)=_;have h:opR P own ⟨dst,.fieldAddr t x f,ty,pos,aft,none⟩ st=st.keep (z4x P t (st.ev x) f):=by
  first|rfl|simp only[opR]
 rw[h];cases (z4x P t (st.ev x) f)<;>rfl
@[go_sem]theorem awpD_fieldAddr{t:TypeId}{x:Operand}{f:Nat}:z46 P own ops (⟨dst,.fieldAddr t x f,ty,pos,aft,none⟩::rest) K st=z6q (z4x P t (st.ev x) f) (z46 P own ops) rest K st dst:=by
 show (match opR P own ⟨dst,.fieldAddr t x f,ty,pos,aft,none⟩ st with|some (d,H,nx)=>z46 P own ops rest K ({ st with H:=H,nx:=nx }.put dst d)|none=>False)=_;have h:opR P own ⟨dst,.fieldAddr t x f,ty,pos,aft,none⟩ st=st.keep (z4x P t (st.ev x) f):=by
  first|rfl|simp only[opR]
 rw[h];cases (z4x P t (st.ev x) f)<;>rfl
@[go_sem]theorem awpL_indexAddr{t:TypeId}{x i:Operand}:z2y P own ops (⟨dst,.indexAddr t x i,ty,pos,aft,none⟩::rest) K st=z6q (z11 P (hmG own dst st.H) t (st.ev x) (st.ev i)) (z2y P own ops) rest K st dst:=by
 show (match opR P own ⟨dst,.indexAddr t x i,ty,pos,aft,none⟩ st with|some (d,H,nx)=>z2y P own ops rest K ({ st with H:=H,nx:=nx }.put dst d)|none=>False)=_;have h:opR P own ⟨dst,.indexAddr t x i,ty,pos,aft,none⟩ st=st.keep (z11 P (hmG own dst st.H) t (st.ev x) (st.ev i)):=by
  first|rfl|simp only[opR]
 rw[h];cases (z11 P (hmG own dst st.H) t (st.ev x) (st.ev i))<;>rfl
@[go_sem]theorem awpD_indexAddr{t:TypeId}{x i:Operand}:z46 P own ops (⟨dst,.indexAddr t x i,ty,pos,aft,none⟩::rest) K st=zde (okT own dst (st.ev x)&&okU own dst (st.ev x)&&okG own dst st.nx (st.ev x)) (z6q (z11 P (hmG own dst st.H) t (st.ev x) (st.ev i)) (z46 P own ops) rest K st dst):=by
 show (match opR P own ⟨dst,.indexAddr t x i,ty,pos,aft,none⟩ st with|some (d,H,nx)=>zde (okT own dst (st.ev x)&&okU own dst (st.ev x)&&okG own dst st.nx (st.ev x)) (z46 P own ops rest K ({ st with H:=H,nx:=nx }.put dst d))|none=>False)=_;have h:opR P own ⟨dst,.indexAddr t x i,ty,pos,aft,none⟩ st=st.keep (z11 P (hmG own dst st.H) t (st.ev x) (st.ev i)):=by
  first|rfl|simp only[opR]
 rw[h];cases (z11 P (hmG own dst st.H) t (st.ev x) (st.ev i))<;>first|exact(za0 _).symm|rfl
@[go_sem]theorem awpL_index{t:TypeId}{x i:Operand}:z2y P own ops (⟨dst,.index t x i,ty,pos,aft,none⟩::rest) K st=z6q (zdm P t (st.ev x) (st.ev i)) (z2y P own ops) rest K st dst:=by
 show (match opR P own ⟨dst,.index t x i,ty,pos,aft,none⟩ st with|some (d,H,nx)=>z2y P own ops rest K ({ st with H:=H,nx:=nx }.put dst d)|none=>False)=_;have h:opR P own ⟨dst,.index t x i,ty,pos,aft,none⟩ st=st.keep (zdm P t (st.ev x) (st.ev i)):=by
  first|rfl|simp only[opR]
 rw[h];cases (zdm P t (st.ev x) (st.ev i))<;>rfl
@[go_sem]theorem awpD_index{t:TypeId}{x i:Operand}:z46 P own ops (⟨dst,.index t x i,ty,pos,aft,none⟩::rest) K st=z6q (zdm P t (st.ev x) (st.ev i)) (z46 P own ops) rest K st dst:=by
 show (match opR P own ⟨dst,.index t x i,ty,pos,aft,none⟩ st with|some (d,H,nx)=>z46 P own ops rest K ({ st with H:=H,nx:=nx }.put dst d)|none=>False)=_;have h:opR P own ⟨dst,.index t x i,ty,pos,aft,none⟩ st=st.keep (zdm P t (st.ev x) (st.ev i)):=by
  first|rfl|simp only[opR]
 rw[h];cases (zdm P t (st.ev x) (st.ev i))<;>rfl
@[go_sem]theorem awpL_extract{x:Operand}{i:Nat}:z2y P own ops (⟨dst,.extract x i,ty,pos,aft,none⟩::rest) K st=z6q (z85 (st.ev x) i) (z2y P own ops) rest K st dst:=by
 show (match opR P own ⟨dst,.extract x i,ty,pos,aft,none⟩ st with|some (d,H,nx)=>z2y P own ops rest K ({ st with H:=H,nx:=nx }.put dst d)|none=>False)=_;have h:opR P own ⟨dst,.extract x i,ty,pos,aft,none⟩ st=st.keep (z85 (st.ev x) i):=by
  simp only[opR,z85];generalize st.ev x=v;cases v<;>rfl
 rw[h];cases (z85 (st.ev x) i)<;>rfl
@[go_sem]theorem awpD_extract{x:Operand}{i:Nat}:z46 P own ops (⟨dst,.extract x i,ty,pos,aft,none⟩::rest) K st=z6q (z85 (st.ev x) i) (z46 P own ops) rest K st dst:=by
 show (match opR P own ⟨dst,.extract x i,ty,pos,aft,none⟩ st with|some (d,H,nx)=>z46 P own ops rest K ({ st with H:=H,nx:=nx }.put dst d)|none=>False)=_;have h:opR P own ⟨dst,.extract x i,ty,pos,aft,none⟩ st=st.keep (z85 (st.ev x) i):=by
  simp only[opR,z85];generalize st.ev x=v;cases v<;>rfl
 rw[h];cases (z85 (st.ev x) i)<;>rfl
@[go_sem]theorem awpL_nilCheck{x:Operand}:z2y P own ops (⟨dst,.nilCheck x,ty,pos,aft,none⟩::rest) K st=z6q (z6r (st.ev x)) (z2y P own ops) rest K st dst:=by
 show (match opR P own ⟨dst,.nilCheck x,ty,pos,aft,none⟩ st with|some (d,H,nx)=>z2y P own ops rest K ({ st with H:=H,nx:=nx }.put dst d)|none=>False)=_;have h:opR P own ⟨dst,.nilCheck x,ty,pos,aft,none⟩ st=st.keep (z6r (st.ev x)):=by
  simp only[opR,z6r];generalize st.ev x=v;cases v<;>rfl
 rw[h];cases (z6r (st.ev x))<;>rfl
@[go_sem]theorem awpD_nilCheck{x:Operand}:z46 P own ops (⟨dst,.nilCheck x,ty,pos,aft,none⟩::rest) K st=z6q (z6r (st.ev x)) (z46 P own ops) rest K st dst:=by
 show (match opR P own ⟨dst,.nilCheck x,ty,pos,aft,none⟩ st with|some (d,H,nx)=>z46 P own ops rest K ({ st with H:=H,nx:=nx }.put dst d)|none=>False)=_;have h:opR P own ⟨dst,.nilCheck x,ty,pos,aft,none⟩ st=st.keep (z6r (st.ev x)):=by
  simp only[opR,z6r];generalize st.ev x=v;cases v<;>rfl
 rw[h];cases (z6r (st.ev x))<;>rfl
@[go_sem]theorem awpL_len{x:Operand}{t:TypeId}:z2y P own ops (⟨dst,.call ⟨.builtin .len,#[x],#[t]⟩,ty,pos,aft,none⟩::rest) K st=z6q (lenD P (hmG own dst st.H) t (st.ev x)) (z2y P own ops) rest K st dst:=by
 show (match opR P own ⟨dst,.call ⟨.builtin .len,#[x],#[t]⟩,ty,pos,aft,none⟩ st with|some (d,H,nx)=>z2y P own ops rest K ({ st with H:=H,nx:=nx }.put dst d)|none=>False)=_;have h:opR P own ⟨dst,.call ⟨.builtin .len,#[x],#[t]⟩,ty,pos,aft,none⟩ st=st.keep (lenD P (hmG own dst st.H) t (st.ev x)):=by
  first|rfl|simp only[opR]
 rw[h];cases (lenD P (hmG own dst st.H) t (st.ev x))<;>rfl
@[go_sem]theorem awpD_len{x:Operand}{t:TypeId}:z46 P own ops (⟨dst,.call ⟨.builtin .len,#[x],#[t]⟩,ty,pos,aft,none⟩::rest) K st=z6q (lenD P (hmG own dst st.H) t (st.ev x)) (z46 P own ops) rest K st dst:=by
 show (match opR P own ⟨dst,.call ⟨.builtin .len,#[x],#[t]⟩,ty,pos,aft,none⟩ st with|some (d,H,nx)=>z46 P own ops rest K ({ st with H:=H,nx:=nx }.put dst d)|none=>False)=_;have h:opR P own ⟨dst,.call ⟨.builtin .len,#[x],#[t]⟩,ty,pos,aft,none⟩ st=st.keep (lenD P (hmG own dst st.H) t (st.ev x)):=by
  first|rfl|simp only[opR]
 rw[h];cases (lenD P (hmG own dst st.H) t (st.ev x))<;>rfl
@[go_sem]theorem awpL_max{x y:Operand}{a:Array TypeId}:z2y P own ops (⟨dst,.call ⟨.builtin .max,#[x,y],a⟩,ty,pos,aft,none⟩::rest) K st=z6q (maxD (st.ev x) (st.ev y)) (z2y P own ops) rest K st dst:=by
 show (match opR P own ⟨dst,.call ⟨.builtin .max,#[x,y],a⟩,ty,pos,aft,none⟩ st with|some (d,H,nx)=>z2y P own ops rest K ({ st with H:=H,nx:=nx }.put dst d)|none=>False)=_;have h:opR P own ⟨dst,.call ⟨.builtin .max,#[x,y],a⟩,ty,pos,aft,none⟩ st=st.keep (maxD (st.ev x) (st.ev y)):=by
  first|rfl|simp only[opR]
 rw[h];cases (maxD (st.ev x) (st.ev y))<;>rfl
@[go_sem]theorem awpL_append{x y:Operand}{t:TypeId}:z2y P own ops (⟨dst,.call ⟨.builtin .append,#[x,y],#[t,t]⟩,ty,pos,aft,none⟩::rest) K st=zkc (zar P own dst st t (st.ev x) (st.ev y)) (z2y P own ops) rest K st dst:=by
 show (match opR P own ⟨dst,.call ⟨.builtin .append,#[x,y],#[t,t]⟩,ty,pos,aft,none⟩ st with|some (d,H,nx)=>z2y P own ops rest K ({ st with H:=H,nx:=nx }.put dst d)|none=>False)=_;have h:opR P own ⟨dst,.call ⟨.builtin .append,#[x,y],#[t,t]⟩,ty,pos,aft,none⟩ st=zar P own dst st t (st.ev x) (st.ev y):=by
  simp only[opR,if_true,zar,St.keep]
 rw[h];cases (zar P own dst st t (st.ev x) (st.ev y))<;>rfl
@[go_sem]theorem awpD_append{x y:Operand}{t:TypeId}:z46 P own ops (⟨dst,.call ⟨.builtin .append,#[x,y],#[t,t]⟩,ty,pos,aft,none⟩::rest) K st=zde (okQ own dst st (st.ev x)) (zkc (zar P own dst st t (st.ev x) (st.ev y)) (z46 P own ops) rest K st dst):=by
 show (match opR P own ⟨dst,.call ⟨.builtin .append,#[x,y],#[t,t]⟩,ty,pos,aft,none⟩ st with|some (d,H,nx)=>zde (okQ own dst st (st.ev x)) (z46 P own ops rest K ({ st with H:=H,nx:=nx }.put dst d))|none=>False)=_;have h:opR P own ⟨dst,.call ⟨.builtin .append,#[x,y],#[t,t]⟩,ty,pos,aft,none⟩ st=zar P own dst st t (st.ev x) (st.ev y):=by
  simp only[opR,if_true,zar,St.keep]
 rw[h];cases (zar P own dst st t (st.ev x) (st.ev y))<;>first|exact(za0 _).symm|rfl
def zrw(P:Program)(f:D)(args:List D)(g:List Oper->(St->Prop)->St->Prop)(rest:List Oper)(K:St->Prop)(st:St)(dst:Option Nat):Prop :=
 match f with | .fn n cap=>AC P n (args++cap) st.H st.nx fun r H a=>g rest K ((st.withH H a).put dst r) | .bfn n first=>AC P n (first++args) st.H st.nx fun r H a=>g rest K ((st.withH H a).put dst r)|_=>False
def zrx(P:Program)(own:List Nat)(f:D)(args:List D)(g:List Oper->(St->Prop)->St->Prop)(rest:List Oper)(K:St->Prop)(st:St)(dst:Option Nat):Prop :=
 match f with | .fn n cap=>(z0s 5000000 own dst=false/\tcM own dst=none/\∃r,RCF P own dst n (args++cap) st r/\g rest K (st.put dst r)) \/
   (z0s 5000000 own dst=true/\∃r,(∀H a,RC P n (args++cap) H a r)/\g rest K (st.put dst r)) \/
   (z0s 5000000 own dst=false/\z0s 4000000 own dst=true/\∃d H a,AC P n (args++cap) st.H st.nx (fun e c b=>e=d/\c=H/\b=a)/\CallB P own dst n (args++cap) st.H st.nx st d H a/\g rest K ((st.withH H a).put dst d))|_=>False
@[go_sem]theorem awpL_call{f:Operand}{args:Array Operand}{a:Array TypeId}:z2y P own ops (⟨dst,.call ⟨.value f,args,a⟩,ty,pos,aft,none⟩::rest) K st=zrw P (st.ev f) (args.toList.map st.ev) (z2y P own ops) rest K st dst:=rfl
@[go_sem]theorem awpD_call{f:Operand}{args:Array Operand}{a:Array TypeId}:z46 P own ops (⟨dst,.call ⟨.value f,args,a⟩,ty,pos,aft,none⟩::rest) K st=zrx P own (st.ev f) (args.toList.map st.ev) (z46 P own ops) rest K st dst:=rfl
variable {n:FuncId}{cap args:List D}{g:List Oper->(St->Prop)->St->Prop}
theorem z2i(h:AC P n (args++cap) st.H st.nx fun r H a=>g rest K ((st.withH H a).put dst r)):zrw P (.fn n cap) args g rest K st dst:=h
theorem z20{r:D}(h:RC P n (args++cap) st.H st.nx r)(a:g rest K (st.put dst r)):zrw P (.fn n cap) args g rest K st dst:=z2i (RC.ac h a)
theorem zqs{r:D}(h:PC P n (args++cap) r)(a:g rest K (st.put dst r)):zrw P (.fn n cap) args g rest K st dst:=z2i (RC.ac (h.rc st.H st.nx) a)
theorem zfi{r:D}(h:RC P n (args++cap) st.H st.nx r)(a:z0s 5000000 own dst=false)(c:g rest K (st.put dst r))(d:tcM own dst=none:=by rfl)(b:z0s 11000000 own dst=false:=by rfl):zrx P own (.fn n cap) args g rest K st dst:=.inl ⟨a,d,r,⟨h,fun e=>by rw[b]at e;cases e⟩,c⟩
theorem zfj{r:D}(h:∀H a,zfa st H a->RC P n (args++cap) H a r)(b:z0s 5000000 own dst=false)(c:g rest K (st.put dst r))(d:tcM own dst=none:=by rfl):zrx P own (.fn n cap) args g rest K st dst:=.inl ⟨b,d,r,⟨h _ _ ⟨Za _,fun _ _=>rfl⟩,fun _=>h⟩,c⟩
theorem zqt{r:D}(h:PC P n (args++cap) r)(c:g rest K (st.put dst r))(d:tcM own dst=none:=by rfl):zrx P own (.fn n cap) args g rest K st dst:=by
 cases b:z0s 5000000 own dst with
 |false=>exact .inl ⟨b,d,r,⟨h.rc st.H st.nx,fun _ H a _=>h.rc H a⟩,c⟩
 |true=>exact .inr (.inl ⟨b,r,fun H a=>h.rc H a,c⟩)
def TC(P:Program)(f:FuncId)(ds:List D)(k:Nat)(o o':HObj)(r:D):Prop:=∀H a,k<a->H k=some o->AC P f ds H a fun d b c=>d=r/\b=z0m H k (some o')/\c=a
theorem zie{k:Nat}{o o':HObj}{r:D}(h:TC P n (args++cap) k o o' r)(b:st.H k=some o)(d:k<st.nx)(c:g rest K ((st.withH (z0m st.H k (some o')) st.nx).put dst r)):zrw P (.fn n cap) args g rest K st dst :=
 z2i ((h st.H st.nx d b).mono fun j e i ⟨a,h2,h3⟩=>by subst a;subst h2;subst h3;exact c)
end
end Abs
namespace Abs
open Go.RowKit

theorem zad{n:Int}(h : -9223372036854775808<=n/\n<=9223372036854775807):IntKind.i64.wrap n=n:=by rw[IntKind.wrap_i64];omega
theorem idxD_map{α:Type}(f:α->D)(l:List α)(k:Nat)(h:k<l.length):zv6 (l.map f) (k:Int)=some (f l[k]):=by
 unfold zv6;rw[if_pos ⟨by omega,by simpa using h⟩];simp[h]
theorem z0x{α:Type}{f:α->D}(h:∀x,pureD (f x)=true):∀(l:List α),pureD.pureL (l.map f)=true
 |[]=>rfl
 |x::l=>by simp only[Zl,pureD.pureL,h x,z0x h l,ZF]
theorem z0e{P:Program}{H:HM}{d:D}(k:Nat)(h:pureD d=true):z3f P H (k+1) d=some d:=by unfold z3f;rw[if_pos h]
theorem zet{P:Program}{H:HM}(k:Nat):∀(ds:List D),pureD.pureL ds=true->zgp (z3f P H (k+1)) ds=some ds
 |[],_=>rfl
 |d::ds,h=>by
  simp only[pureD.pureL,Z1]at h;simp only[zgp,z0e k h.1,zet k ds h.2]
theorem zga:∀(cs:List D),z23 false 1 cs.length cs=cs
 |[]=>rfl
 |c::cs=>by
  simp only[Zj,z23,Z4,if_false,Zz,Zb,Y2,Ye];rw[zga cs]
theorem z8j{P:Program}{H:HM}{id n e:Nat}{cs:List D}(k:Nat)(d:H id=some (.row e n cs))(h:z0r P e=false)(l:z0d P e=1)(i:cs.length=n)(j:pureD.pureL cs=true) :
  z3f P H (k+2) (.osl id n)=some (.rsl false 1 cs):=by
 unfold z3f;simp only[pureD,Z4,if_false,d,h,l,and_self,or_true,if_true];rw[zet k cs j];simp only[Z9];rw[<-i,zga]

def encI(l:List Int):D:=.rsl false 1 (l.map fun n=>.int .i64 n)
def z1n(l:List ByteArray):D:=.rsl false 1 (l.map .str)
theorem zpp(l:List Int):pureD (encI l)=true:=by simp only[encI,pureD];exact z0x (fun _=>rfl) l
theorem z1q(l:List ByteArray):pureD (z1n l)=true:=by simp only[z1n,pureD];exact z0x (fun _=>rfl) l
end Abs
namespace Abs
theorem z06{P:Program}{H:HM}{nx k:Nat}{d r:D}(e:pureD d=true)(h:Le d r):Fin P (k+1) r d H nx:=⟨d,z0e k e,h⟩
theorem z01{P:Program}{H:HM}{nx:Nat}{b c:Bool}(h:b=c):Fin P 1 (.bool c) (.bool b) H nx:=z06 rfl (by rw[h];exact Le.refl _)
theorem z1o{P:Program}{H:HM}{nx:Nat}{b c:Int}(h:b=c):Fin P 1 (.int .i64 c) (.int .i64 b) H nx:=z06 rfl (by rw[h];exact Le.refl _)
end Abs
namespace Abs
open Go.RowKit
theorem z2n{P:Program}{H:HM}{id e:Nat}{c d:D}(k:Nat)(h:H id=some (.box e [c]))(i:z0r P e=false)(j:z3f P H k c=some d):z3f P H (k+1) (.ptr id 0)=some (.rptr d):=by
 unfold z3f;simp only[pureD,Z4,if_false,h,i,false_or,Zj,ZN,and_self,if_true,zgp,j,Z9,Zz,Zb]
theorem z00{P:Program}{H:HM}{k:Nat}{d i:D}{ds e:List D}(h:z3f P H k d=some i)(j:zgp (z3f P H k) ds=some e):zgp (z3f P H k) (d::ds)=some (i::e):=by
 simp only[zgp,h,j]
theorem z0i{P:Program}{H:HM}{k:Nat}:zgp (z3f P H k) []=some []:=rfl
end Abs
namespace Abs
open Go.RowKit
theorem zi4{P:Program}{H:HM}{f:FuncId}{cap d:List D}(k:Nat)(h:pureD.pureL cap=false)(e:zgp (z3f P H k) cap=some d):z3f P H (k+1) (.fn f cap)=some (.fn f d):=by
 unfold z3f;simp only[pureD,h,Z4,if_false,e,Z9]
theorem z3j{P:Program}{H:HM}{nx k:Nat}{d r:D}(h:z3f P H k d=some r):Fin P k r d H nx:=⟨r,h,Le.refl _⟩
end Abs
namespace Abs
open Go.RowKit
theorem zcw{α:Type}{f:α->List D}{sz:Nat}(h:∀x,(f x).length=sz):∀(l:List α),z23 true sz l.length (l.flatMap f)=l.map fun x=>.agg (f x)
 |[]=>rfl
 |x::l=>by
  simp only[Zj,z23,if_true,List.flatMap_cons,Zl];rw[Y9 (h x),Ya (h x),zcw h l]
theorem z1z{α:Type}{f:α->List D}(h:∀x,pureD.pureL (f x)=true):∀(l:List α),pureD.pureL (l.flatMap f)=true
 |[]=>rfl
 |x::l=>by
  have e:∀(a b:List D),pureD.pureL a=true->pureD.pureL b=true->pureD.pureL (a++b)=true:=by
   intro a b
   induction a with
   |nil=>intro _ h;exact h
   |cons d o m =>
    intro i j;simp only[pureD.pureL,Z1,Zi]at i⊢;exact⟨i.1,m i.2 j⟩
  exact e _ _ (h x) (z1z h l)
theorem z2b{α:Type}{P:Program}{H:HM}{id e sz:Nat}{f:α->List D}{l:List α}(k:Nat)(d:H id=some (.row e l.length (l.flatMap f)))(i:z0r P e=true)(m:z0d P e=sz)(h:∀x,(f x).length=sz)(j:∀x,pureD.pureL (f x)=true) :
  z3f P H (k+2) (.osl id l.length)=some (.rsl false sz (l.map fun x=>.agg (f x))):=by
 unfold z3f;simp only[pureD,Z4,if_false,d,i,true_or,and_self,if_true,m];rw[zet k _ (z1z j l)];simp only[Z9,zcw h]
end Abs
namespace Abs
theorem z5v{H:HM}{i j:Nat}{o:Option HObj}(h:¬j=i):z0m H i o j=H j:=if_neg h
theorem z3k{H:HM}{i:Nat}{o:Option HObj}:z0m H i o i=o:=if_pos rfl
end Abs
namespace Abs
open Go.RowKit
theorem PC.le{P:Program}{f:FuncId}{ds d:List D}{r:D}(h:PC P f d r)(o:pureD.pureL ds=true)(m:LeL ds d):PC P f ds r :=
 ⟨o,h.2.1,h.2.2.1,fun s w p e i j l=>h.2.2.2 s w p e i j (zfh m l)⟩
end Abs
namespace Abs
open Go.RowKit Go.ChangeShapes

def z9h(W:World):RS:={ m:=W.cell?,H:=noH,nx:=0,κ:=fun _=>.pointer none }
def GlobOK(W:World):Prop:=∀g,rel (z9h W) (globD g) (.pointer (some ⟨g,0,none⟩))

theorem readS_RH(P:Program)(W:World)(e:GlobOK W):RH P (z9h W) W :=
 ⟨fun a v h=>⟨h,by rintro⟨id,d,_⟩;exact absurd d (Zu _)⟩,fun id o m=>(by cases m),fun i j l=>(l rfl).elim,e⟩
theorem law_calls{P:Program}{f:FuncId}{ds:List D}{v:Value}{d:D}(h:PC P f ds d)(l:∀s u,rel s d u->u=v){W:World}(m:GlobOK W){vs:List Value}(p:relAll (z9h W) ds vs) :
  Calls P f vs.toArray W fun e j=>e=.returned v/\Below W.heap.size W j:=by
 refine(h.2.2.2 (z9h W) W vs rfl rfl (readS_RH P W m) p).mono fun e j ⟨u,r',s',he,hrr,hstep,_,hrel⟩=>?_;subst hrr;rw[l _ _ hrel]at he;exact⟨he,hstep.os,hstep.tape,hstep.output,hstep.size,fun k o=>hstep.keep k o (by rintro⟨id,i,_⟩;exact absurd i (Zu _))⟩
end Abs
namespace Abs
open Go.RowKit Go.ChangeShapes
end Abs
namespace Abs
open Go.RowKit
variable {P:Program}{own:List Nat}{Q:Exit->St->Prop}{st:St}

theorem zqd{c:Operand}{x y b:Code}(t:Bool)(h:st.ev c=.bool t)(d:t=true->awp P own (.seq x b) Q st)(e:t=false->awp P own (.seq y b) Q st):awp P own (.seq (.cond c x y) b) Q st :=
 ⟨t,h,d,e⟩
theorem zqb{b:Code}(h:awp P own b Q st):awp P own (.seq .skip b) Q st:=⟨st,SealTo.refl st,h⟩
theorem zqg{b:Code}(h:Q .ret st):awp P own (.seq .ret b) Q st:=h
theorem zqc{b:Code}{id:Nat}(h:Q (.exit id) st):awp P own (.seq (.exit id) b) Q st:=h
theorem zqa{id:Nat}{c b:Code}(h:awp P own c (zuj id (zo8 (fun st=>∃d,SealTo P st d/\awp P own b Q d) Q)) st):awp P own (.seq (.block id c) b) Q st:=h
theorem zqr{id:Nat}{l:List Oper}(h:∀K:St->Prop,(∀st,Q .normal st->K st)->z2y P own (l.map (·.dst)) l K st):awp P own (.region id l.toArray false) Q st :=
 awp_reg (h _ fun _ h=>h)
theorem zqq{id:Nat}{l:List Oper}(d:zmk own l.toArray=true)(h:∀K:St->Prop,(∀st,Q .normal st->K st)->z46 P own (l.map (·.dst)) l K st):awp P own (.region id l.toArray true) Q st :=
 zww d (h _ fun _ h=>h)
theorem z2w{c:Code}(I:Nat->St->Prop)(e:∃n,I n st)(h:∀n d,I n d->awp P own c (zzf I n Q) d):awp P own (.loop c) Q st:=⟨I,e,h⟩
def isRN:Exit->Bool
 | .normal | .ret=>true
 |_=>false
theorem zqu{e:Exit}{i:List ResultVar}{K:D->HM->Nat->Prop}{d:D}(h:resD P st i=some d)(l:isRN e=true)(j:K d st.H st.nx):retQ P i K e st:=by
 cases e<;>first|exact⟨d,h,j⟩|cases l
theorem zqv{Q':Exit->St->Prop}{b:Code}(h:awp P own b Q st):zo8 (fun st=>∃d,SealTo P st d/\awp P own b Q d) Q' .normal st:=⟨st,SealTo.refl st,h⟩
theorem zbr{Q':Exit->St->Prop}{b:Code}(d:St)(e:SealTo P st d)(h:awp P own b Q d):zo8 (fun st=>∃d,SealTo P st d/\awp P own b Q d) Q' .normal st:=⟨d,e,h⟩
theorem zqx{k:St->Prop}(h:Q .ret st):zo8 k Q .ret st:=h
theorem zqy{id:Nat}(h:Q .normal st):zuj id Q .normal st:=h
theorem zqz{id:Nat}(h:Q .normal st):zuj id Q (.exit id) st:=by
 simp only[zuj,if_true];exact h
theorem zqzb{id:Nat}(h:Q .ret st):zuj id Q .ret st:=h
theorem zqp{I:Nat->St->Prop}{n id:Nat}(h:Q (.exit id) st):zzf I n Q (.exit id) st:=h
theorem zqo{I:Nat->St->Prop}{n:Nat}(h:Q .ret st):zzf I n Q .ret st:=h
section
variable {f:List Oper->(St->Prop)->St->Prop}{rest:List Oper}{K:St->Prop}{dst:Option Nat}
theorem zqf{b:Bool}{e:Op}{ty:TypeId}{pos:String}{d:Array Edge}{g:Option (Nat×Bool)}(h:b=true->f (⟨dst,e,ty,pos,d,g⟩::rest) K st)(i:b=false->f rest K (st.put dst (.tup []))) :
  stepG (some b) f ⟨dst,e,ty,pos,d,g⟩ rest K st:=by
 cases b with
 |true=>exact h rfl
 |false=>exact i rfl
end
attribute [go_sem] encI z1n
theorem idxD_mapI{α:Type}{f:α->D}{l:List α}{i:Int}(d:0<=i)(h:i.toNat<l.length):zv6 (l.map f) i=some (f l[i.toNat]):=by
 unfold zv6;rw[if_pos ⟨d,by simp;omega⟩];simp[h]
theorem ite_some{α:Type}{c:Prop}[Decidable c]{x:α}(h:c):(if c then some x else none)=some x:=if_pos h
theorem take_map' {α β:Type}(f:α->β)(l:List α)(i:Nat):(l.map f).take i=(l.take i).map f:=(Yf).symm
theorem drop_map' {α β:Type}(f:α->β)(l:List α)(i:Nat):(l.map f).drop i=(l.drop i).map f:=(Yg).symm
theorem zy8:maxLen=9223372036854775807:=rfl
attribute [go_sem] take_map' drop_map' zy8
theorem nbeq{a b:Nat}(h:¬a=b):(a==b)=false:=by simpa using h
theorem nb1{a:Nat}{st:St}(h:¬a=st.nx):(a==st.nx)=false:=nbeq h
theorem nb2{a:Nat}{st:St}(h:¬st.nx=a):(st.nx==a)=false:=nbeq h
theorem nb3{a k:Nat}{st:St}(h:¬a=st.nx+k):(a==st.nx+k)=false:=nbeq h
theorem nb4{a k:Nat}{st:St}(h:¬st.nx+k=a):(st.nx+k==a)=false:=nbeq h
theorem idxD_mapN{α:Type}{f:α->D}{l:List α}{k:Nat}(h:k<l.length):zv6 (l.map f) (k:Int)=some (f l[k]):=idxD_map f l k h
theorem AC.split{f:FuncId}{pre post:List D}{sz:Nat}{els:List D}{H:HM}{nx:Nat}{K:D->HM->Nat->Prop}(t:els=[]->AC P f (pre ++ .nil::post) H nx K)(h:AC P f (pre ++ .rsl true sz els::post) H nx K) :
  AC P f (pre ++ .rsl false sz els::post) H nx K:=by
 refine⟨h.1,fun s w e q m l i=>?_⟩;have p:∀(pre:List D) (e:List Value),relAll s (pre ++ .rsl false sz els::post) e->(els=[]/\relAll s (pre ++ .nil::post) e) \/ relAll s (pre ++ .rsl true sz els::post) e:=by
  intro pre
  induction pre with
  |nil =>
   intro e i;simp only[ZL,relAll]at i⊢;obtain⟨v,r,h,h2,j⟩:=i;simp only[rel]at h2;rcases h2 with ⟨_,h4,o⟩|h2
   ·exact .inl ⟨h4,v,r,h,by simpa only[rel] using o,j⟩
   ·exact .inr ⟨v,r,h,by simp only[rel];exact .inr h2,j⟩
  |cons d x u =>
   intro e i;simp only[Zi,relAll]at i⊢;obtain⟨v,r,h,h2,j⟩:=i;rcases u r j with ⟨h4,o⟩|h4
   ·exact .inl ⟨h4,v,r,h,h2,o⟩
   ·exact .inr ⟨v,r,h,h2,h4⟩
 rcases p pre e i with ⟨h2,j⟩|h2
 ·exact(t h2).2 s w e q m l j
 ·exact h.2 s w e q m l h2
theorem zeu{P:Program}{H:HM}{ds d:List D}(k:Nat)(h:pureD.pureL ds=false)(e:zgp (z3f P H k) ds=some d):z3f P H (k+1) (.tup ds)=some (.tup d):=by
 unfold z3f;simp only[pureD,h,Z4,if_false,e,Z9]
theorem z6j{P:Program}{H:HM}{ds d:List D}(k:Nat)(h:pureD.pureL ds=false)(e:zgp (z3f P H k) ds=some d):z3f P H (k+1) (.agg ds)=some (.agg d):=by
 unfold z3f;simp only[pureD,h,Z4,if_false,e,Z9]
theorem zdy {cs:List D}{n:Nat}(h:n=cs.length):z23 false 1 n cs=cs:=by subst h;exact zga cs
theorem z98{α:Type}{f:α->D}(h:∀x,z5g (f x)=some [f x]):∀(l:List α),z21 1 (l.map f)=some (l.map f)
 |[]=>rfl
 |x::l=>by simp[z21,h,z98 h l]
theorem cells_str(l:List ByteArray):z21 1 (l.map D.str)=some (l.map D.str):=z98 (fun _=>rfl) l
theorem cells_int{k:IntKind}(l:List Int):z21 1 (l.map (D.int k))=some (l.map (D.int k)):=z98 (fun _=>rfl) l
theorem zi5(l:List ByteArray):pureD.pureL (l.map D.str)=true:=z0x (fun _=>rfl) l
theorem pure_int{k:IntKind}(l:List Int):pureD.pureL (l.map (D.int k))=true:=z0x (fun _=>rfl) l
theorem zy9{α:Type}(f:α->D)(l:List α):z23 false 1 l.length (l.map f)=l.map f:=zdy (by simp)
attribute [go_sem] ZL Zi Bool.false_or ZU Bool.true_or ZO zy9
theorem zpq(a b:List D):pureD.pureL (a++b)=(pureD.pureL a&&pureD.pureL b):=by
 induction a with
 |nil=>rfl
 |cons d h e=>simp only[Zi,pureD.pureL,e,Bool.and_assoc]
attribute [go_sem] zpq
theorem ztm{α:Type}(f:α->D)(l:List α)(x:D):z23 false 1 (l.length+1) (l.map f++[x])=l.map f++[x]:=zdy (by simp)
attribute [go_sem high] ztm
theorem cells_nat{k:IntKind}(l:List Nat):z21 1 (l.map fun n=>D.int k (n:Nat))=some (l.map fun n=>D.int k (n:Nat)):=z98 (fun _=>rfl) l
theorem pure_nat{k:IntKind}(l:List Nat):pureD.pureL (l.map fun n=>D.int k (n:Nat))=true:=z0x (fun _=>rfl) l
attribute [go_sem] cells_str cells_int zi5 pure_int cells_nat pure_nat

theorem zpr:∀(n:Nat) (cs:List D),pureD.pureL cs=true->pureD.pureL (cs.take n)=true
 |0,_,_=>rfl
 |n+1,[],_=>rfl
 |n+1,c::cs,h=>by
  simp only[pureD.pureL,Z1,Y3]at h⊢;exact⟨h.1,zpr n cs h.2⟩
theorem zps:∀(n:Nat) (cs:List D),pureD.pureL cs=true->pureD.pureL (cs.drop n)=true
 |0,_,h=>h
 |n+1,[],_=>rfl
 |n+1,c::cs,h=>by
  simp only[pureD.pureL,Z1]at h;exact zps n cs h.2
theorem zlx{d:Bool}{sz:Nat}:∀ {n:Nat}{cs:List D},pureD.pureL cs=true->pureD.pureL (z23 d sz n cs)=true
 |0,_,_=>rfl
 |n+1,cs,h=>by
  simp only[z23,pureD.pureL,Z1];refine⟨?_,zlx (zps sz cs h)⟩;cases d with
  |true=>simp only[if_true,pureD];exact zpr sz cs h
  |false =>
   cases cs with
   |nil=>rfl
   |cons c cs =>
    simp only[pureD.pureL,Z1]at h;exact h.1
def zpt(P:Program)(id:Nat)(e:TypeId)(k:Nat)(cs:List D):D->D
 | .osl j n=>cond (j==id&&n==k) (.rsl false (z0d P e) (z23 (z0r P e) (z0d P e) k cs)) (.osl j n)
 |d=>d
def seal1(P:Program)(id:Nat)(e:TypeId)(k:Nat)(cs:List D):D->D
 | .agg h=>.agg (h.map (zpt P id e k cs))
 |d=>zpt P id e k cs d
def zl8(P:Program)(id:Nat)(e:TypeId)(k:Nat)(cs:List D):HObj->HObj
 | .box t d=>.box t (d.map (zpt P id e k cs))
 | .row t n d=>.row t n (d.map (zpt P id e k cs))
 |o=>o
def St.given(P:Program)(st:St)(id:Nat)(e:TypeId)(k:Nat)(cs:List D):St :=
 {t:=fun i=>seal1 P id e k cs (st.t i),H:=fun j=>cond (j==id) none ((st.H j).map (zl8 P id e k cs)),nx:=st.nx }
theorem zae{st:St}{id:Nat}{e:TypeId}{k:Nat}{cs:List D}(h:st.H id=some (.row e k cs))(Y:zv7 P e=true)(hp:pureD.pureL cs=true):SealTo P st (st.given P id e k cs):=by
 intro N s a w z;have O:s.H id=some (.row e k cs):=by rw[z.H];exact h
 obtain⟨C,g2⟩:=zdq z.heap (id:=id) (by rw[O];simp)
 let x:RS:={ s.shut1 w id with H:=fun j=>cond (j==id) none ((s.H j).map (zl8 P id e k cs)) }
 have hm:x.m=(s.shut1 w id).m:=rfl;have M:∀j,j≠id->x.H j=(s.H j).map (zl8 P id e k cs):=fun j p=>by
  have:(j==id)=false:=by simpa using p
  show cond (j==id) none _=_;rw[this];rfl
 have E:x.H id=none:=by
  show cond (id==id) none _=_;simp
 have l:Later s x:=by
  refine⟨Za _,C.mem,fun j _=>?_⟩
  by_cases p:j=id
  ·subst p;rw[E,O];exact .inl rfl
  ·rw[M j p];show objLe (s.H j) ((s.H j).map _) (s.κ j) (s.κ j);cases s.H j with
   |none=>rfl
   |some o =>
    cases o with
    |box t y=>exact .inr ⟨_,rfl,rfl⟩
    |row t n y=>exact .inr ⟨n,_,rfl,Za _,fun _=>rfl⟩
    |map es=>exact .inr ⟨_,rfl,rfl,rfl⟩
    |raw q=>exact .inr ⟨_,rfl,rfl,rfl⟩
 have r0:∀d v,rel s d v->rel x (zpt P id e k cs d) v:=by
  intro d v A;have F:rel x d v:=rel.later l d v A;cases d<;>first|exact F|skip
  rename_i j n;simp only[zpt];cases hc:(j==id&&n==k)with
  |false=>exact F
  |true =>
   simp only[Z1,beq_iff_eq]at hc;obtain⟨rfl,rfl⟩:=hc;have hs:zks P (.osl j n,s.H,s.nx)=some (.rsl false (z0d P e) (z23 (z0r P e) (z0d P e) n cs),z0m s.H j none,s.nx):=by
    unfold zks;simp only[O];rw[if_pos ⟨trivial,Y,hp⟩]
   obtain⟨s2,_,_,_,_,a6,a2⟩:=ziv z.heap rfl rfl A hs;have a3:=a2 j n rfl;subst a3;have a5:pureD (.rsl false (z0d P e) (z23 (z0r P e) (z0d P e) n cs))=true:=by
    simp only[pureD];exact zlx hp
   exact z2h (s:=s.shut1 w j) (s':=x) (fun a v h=>h) _ _ a5 a6
 have W:∀(y:List D) (B:List Value),relAll s y B->relAll x (y.map (zpt P id e k cs)) B:=by
  intro y
  induction y with
  |nil=>intro B A;simpa [relAll] using A
  |cons d y ih =>
   intro B A;simp only[relAll]at A;obtain⟨v,r,rfl,J,L⟩:=A;exact z0y (r0 d v J) (ih r L)
 have r1:∀d v,rel s d v->rel x (seal1 P id e k cs d) v:=by
  intro d v A;cases d<;>first|exact r0 _ v A|skip
  rename_i y;simp only[seal1,rel]at A⊢;obtain⟨B,J,L,h3⟩:=A;exact⟨B,J,W y B L,h3⟩
 have u:∀j,x.H j≠none->j≠id/\s.H j≠none:=by
  intro j p
  by_cases R:j=id
  ·subst R;exact(p E).elim
  ·rw[M j R]at p;exact⟨R,fun h0=>p (by rw[h0];rfl)⟩
 have Z:∀b,owned x b->owned (s.shut1 w id) b:=by
  rintro b ⟨j,p,hH,hb⟩;obtain⟨J,L⟩:=u j hH;exact⟨j,p,by simp only[RS.shut1,z0m,if_neg J];exact L,hb⟩
 have U:∀b,owned x b->owned s b:=by
  rintro b ⟨j,p,hH,hb⟩;exact⟨j,p,(u j hH).2,hb⟩
 refine⟨x,⟨?_,z.nx,z.size,z.defers,fun i=>r1 _ _ (z.tmps i),?_⟩,?_⟩
 ·show (fun j=>cond (j==id) none ((s.H j).map (zl8 P id e k cs)))=_;rw[z.H];rfl
 ·refine⟨fun a v X=>⟨(g2.mem a v X).1,fun Y=>(g2.mem a v X).2 (Z _ Y)⟩,fun j o p=>?_,fun i j hi p a4 a1=>?_,fun g=>rel.later l _ _ (z.heap.glob g)⟩
  ·obtain⟨J,L⟩:=u j (by rw[p];simp);rw[M j J]at p;cases hs:s.H j with
   |none=>exact(L hs).elim
   |some o0 =>
    rw[hs]at p;simp only[Z9,Z0]at p;obtain⟨q1,q2⟩:=z.heap.obj j o0 hs;refine⟨q1,?_⟩;show objOK P x w (s.κ j) o;cases o0 with
    |box t y =>
     simp only[zl8]at p;subst p;obtain⟨b,B,u1,u2,u3,u4⟩:=q2;exact⟨b,B,u1,u2,W _ _ u3,u4⟩
    |row t n y =>
     simp only[zl8]at p;subst p;obtain⟨B,u1,u2,u3⟩:=q2;exact⟨B,u1,W _ _ u2,u3⟩
    |map es =>
     simp only[zl8]at p;subst p;obtain⟨r,a0,G,u1,u2,u3,u4⟩:=q2;exact⟨r,a0,G,u1,u2,relAll.later l _ _ u3,relAll.later l _ _ u4.1,u4.2⟩
    |raw q =>
     simp only[zl8]at p;subst p;exact q2
  ·exact z.heap.apart i j (u i hi).2 (u j p).2 a4 a1
 ·exact⟨C.os,C.tape,C.output,C.size,C.nx,C.mem,C.new,l.objs,C.keep,fun b Y=>.inl (U b Y)⟩
@[go_sem]theorem t_seal(st:St)(id e k:Nat)(cs:List D)(i:Nat):(st.given P id e k cs).t i=seal1 P id e k cs (st.t i):=rfl
@[go_sem]theorem H_seal(st:St)(id e k:Nat)(cs:List D)(j:Nat):(st.given P id e k cs).H j=cond (j==id) none ((st.H j).map (zl8 P id e k cs)):=rfl
@[go_sem]theorem nx_seal(st:St)(id e k:Nat)(cs:List D):(st.given P id e k cs).nx=st.nx:=rfl
attribute [go_sem] zpt seal1 zl8
attribute [go_sem] ZP Bool.not_false decide_true decide_false ZX Yh ne_eq not_true_eq_false not_false_eq_true Yb ZY Z0 Zj ZN beq_self_eq_true Bool.true_and Bool.and_true true_or or_true Ye List.set_cons_zero List.set_cons_succ Y3 List.take_zero Y2 D.int.injEq Z2 Int.toNat_natCast Yl Zv Yk Int.natCast_nonneg Y6 List.length_set ZH List.length_replicate List.length_take List.length_drop List.take_length Bool.false_and Yc
attribute [go_sem] idxD_mapN idxD_mapI zad nb1 nb2 nb3 nb4 ite_some resD allR valR
end Abs
namespace Abs
open Go.RowKit
variable {P:Program}

def znf:HObj->Bool
 | .box _ d=>pureD.pureL d
 | .row _ _ d=>pureD.pureL d
 | .map e=>pureD.pureL (e.map (·.1))&&pureD.pureL (e.map (·.2))
 | .raw _=>true
def renD(g:Nat->Nat):D->D
 | .osl j n=>.osl (g j) n
 | .ptr j h=>.ptr (g j) h
 | .mp j=>.mp (g j)
 | .agg e=>.agg (renL e)
 | .tup e=>.tup (renL e)
 |d=>d
where renL:List D->List D
 |[]=>[]
 |d::e=>renD g d::renL e
def okD(k:Nat):D->Bool
 | .osl j _=>decide (j<k)
 | .ptr j _=>decide (j<k)
 | .mp j=>decide (j<k)
 | .agg e=>okL e
 | .tup e=>okL e
 |d=>pureD d
where okL:List D->Bool
 |[]=>true
 |d::e=>okD k d&&okL e
def addL(H:HM)(nx:Nat):List HObj->HM
 |[]=>H
 |o::d=>addL (z0m H nx (some o)) (nx+1) d
theorem zng:∀(os:List HObj) (H:HM) (nx i:Nat),addL H nx os i=if nx<=i/\i<nx+os.length then os[i-nx]? else H i
 |[],H,nx,i=>by
  simp only[addL,ZN,Yk];rw[if_neg (by omega)]
 |o::os,H,nx,i=>by
  simp only[addL,zng os,Zj,z0m]
  by_cases h:nx+1<=i/\i<nx+1+os.length
  ·rw[if_pos h,if_pos (by omega)];have:i-nx=(i-(nx+1))+1:=by omega
   rw[this,ZS]
  ·rw[if_neg h]
   by_cases d:i=nx
   ·subst d;rw[if_pos rfl,if_pos (by omega),Nat.sub_self];rfl
   ·rw[if_neg d,if_neg (by omega)]

def OC(P:Program)(f:FuncId)(ds:List D)(d:List HObj)(r:D):Prop :=
 pureD.pureL ds=true/\okD d.length r=true/\(∀o∈d,znf o=true) /\
  ∀H e,AC P f ds H e fun l i h=>l=renD (fun j=>e+j) r/\i=addL H e d/\h=e+d.length

noncomputable def z8k(s d:RS)(w w':World)(k:Nat)(σ:Nat->Nat):RS :=
 {m:=fun a=>if a.block<w.heap.size then s.m a else @ite _ (∃j,j<k/\blockOf (d.κ (σ j))=some a.block) (ZR _) none (w'.cell? a)
  κ:=fun i=>if s.nx<=i/\i<s.nx+k then d.κ (σ (i-s.nx)) else s.κ i
  H:=fun i=>if s.nx<=i/\i<s.nx+k then d.H (σ (i-s.nx)) else s.H i
  nx:=s.nx+k }

mutual
theorem rel_ren{s s':RS}{k:Nat}{σ τ:Nat->Nat}(i:∀a v,s.m a=some v->s'.m a=some v)
  (l:∀j,j<k->τ j<s'.nx) (t:∀j,j<k->s'.H (τ j)=s.H (σ j)/\s'.κ (τ j)=s.κ (σ j)):∀(d:D) (v:Value),okD k d=true->rel s (renD σ d) v->rel s' (renD τ d) v
 | .osl j n,v,h,e=>by
  simp only[okD,decide_eq_true_eq]at h;simp only[renD,rel]at e⊢;obtain⟨_,o,p⟩:=e;obtain⟨q,r⟩:=t j h;exact⟨l j h,o,by rw[q,r];exact p⟩
 | .ptr j z,v,h,e=>by
  simp only[okD,decide_eq_true_eq]at h;simp only[renD,rel]at e⊢;obtain⟨_,o,p⟩:=e;obtain⟨q,r⟩:=t j h;exact⟨l j h,o,by rw[q,r];exact p⟩
 | .mp j,v,h,e=>by
  simp only[okD,decide_eq_true_eq]at h;simp only[renD,rel]at e⊢;obtain⟨_,o,p⟩:=e;obtain⟨q,r⟩:=t j h;exact⟨l j h,o,by rw[q,r];exact p⟩
 | .agg w,v,h,e=>by
  simp only[okD]at h;simp only[renD,rel]at e⊢;obtain⟨u,y,o,p⟩:=e;exact⟨u,y,zgb i l t w u h o,p⟩
 | .tup w,v,h,e=>by
  simp only[okD]at h;simp only[renD,rel]at e⊢;obtain⟨u,y,o⟩:=e;exact⟨u,y,zgb i l t w u h o⟩
 | .any,v,h,e=>by simp only[renD]at e⊢;exact z2h i _ _ rfl e
 | .int _ _,v,h,e=>by simp only[renD]at e⊢;exact z2h i _ _ rfl e
 | .bool _,v,h,e=>by simp only[renD]at e⊢;exact z2h i _ _ rfl e
 | .str _,v,h,e=>by simp only[renD]at e⊢;exact z2h i _ _ rfl e
 | .nil,v,h,e=>by simp only[renD]at e⊢;exact z2h i _ _ rfl e
 | .nptr,v,h,e=>by simp only[renD]at e⊢;exact z2h i _ _ rfl e
 | .nfun,v,h,e=>by simp only[renD]at e⊢;exact z2h i _ _ rfl e
 | .nmp,v,h,e=>by simp only[renD]at e⊢;exact z2h i _ _ rfl e
 | .e0,v,h,e=>by simp only[renD]at e⊢;exact z2h i _ _ rfl e
 | .rsl A B x,v,h,e=>by simp only[okD]at h;simp only[renD]at e⊢;exact z2h i _ _ h e
 | .rptr d,v,h,e=>by simp only[okD]at h;simp only[renD]at e⊢;exact z2h i _ _ h e
 | .fsl _ x,v,h,e=>by simp only[okD]at h;simp only[renD]at e⊢;exact z2h i _ _ h e
 | .fn f cap,v,h,e=>by simp only[okD]at h;simp only[renD]at e⊢;exact z2h i _ _ h e
 | .bfn f first,v,h,e=>by simp only[okD]at h;simp only[renD]at e⊢;exact z2h i _ _ h e
 | .eptr ..,v,h,e=>by simp only[okD,pureD]at h;cases h
 | .it _,v,h,e=>by simp only[okD,pureD]at h;cases h
theorem zgb{s s':RS}{k:Nat}{σ τ:Nat->Nat}(o:∀a v,s.m a=some v->s'.m a=some v)
  (e:∀j,j<k->τ j<s'.nx) (l:∀j,j<k->s'.H (τ j)=s.H (σ j)/\s'.κ (τ j)=s.κ (σ j)):∀(ds:List D) (vs:List Value),okD.okL k ds=true->relAll s (renD.renL σ ds) vs->relAll s' (renD.renL τ ds) vs
 |[],vs,_,h=>by simpa [renD.renL,relAll] using h
 |d::ds,vs,i,h=>by
  simp only[okD.okL,Z1]at i;simp only[renD.renL,relAll]at h⊢;obtain⟨v,r,p,q,t⟩:=h;exact⟨v,r,p,rel_ren o e l d v i.1 q,zgb o e l ds r i.2 t⟩
end

theorem objOK.pure{s s':RS}{w:World}{v:Value}{o:HObj}(u:∀a v,s.m a=some v->s'.m a=some v)(p:znf o=true)(h:objOK P s w v o):objOK P s' w v o:=by
 cases o with
 |box e z =>
  obtain⟨b,y,i,j,l,t⟩:=h;exact⟨b,y,i,j,z28 u _ _ p l,t⟩
 |row e n z =>
  obtain⟨y,i,j,l⟩:=h;exact⟨y,i,z28 u _ _ p j,l⟩
 |map A =>
  simp only[znf,Z1]at p;obtain⟨r,x,d,i,j,l,t⟩:=h;exact⟨r,x,d,i,j,z28 u _ _ p.1 l,z28 u _ _ p.2 t.1,t.2⟩
 |raw q=>exact h

theorem zi6{f:FuncId}{ds:List D}{l:List HObj}{r:D}(a5:pureD.pureL ds=true)(hr:okD l.length r=true)(ho:∀o∈l,znf o=true)
  (h:AC P f ds noH 0 fun d H' _=>∃σ:Nat->Nat,(∀i j,i<l.length->j<l.length->σ i=σ j->i=j)/\d=renD σ r/\∀j,j<l.length->H' (σ j)=l[j]?):OC P f ds l r:=by
 refine⟨a5,hr,ho,fun H nx=>⟨h.1,fun s w vs hH b5 t b0=>?_⟩⟩;subst hH;subst b5
 let s2:RS:={ s with H:=noH,nx:=0 }
 have a2:∀k,¬owned s2 k:=by rintro k ⟨id,a1,_⟩;exact absurd a1 (Zu _)
 have a4:RH P s2 w:=⟨fun a v b4=>⟨(t.mem a v b4).1,a2 _⟩,fun id o ho=>(by cases ho),fun i j C=>(C rfl).elim,fun g=>z2h (s:=s) (s':=s2) (fun a v hm=>hm) _ _ (z8d g) (t.glob g)⟩
 have b6:relAll s2 ds vs:=z28 (s:=s) (s':=s2) (fun a v hm=>hm) ds vs a5 b0;refine(h.2 s2 w vs rfl rfl a4 b6).mono fun e Z ⟨v,d,s3,he,⟨σ,hinj,hd,hobj⟩,hstep,hRH3,hres⟩=>?_;subst hd;have W:∀k,k<w.heap.size->Z.heap[k]?=w.heap[k]?:=fun k hk=>hstep.keep k hk (a2 k);have G:∀k,owned s3 k->w.heap.size<=k:=fun k hk=>(hstep.own k hk).elim (fun h=>(a2 k h).elim) id;have A:∀j,j<l.length->s3.H (σ j)≠none:=fun j x=>by rw[hobj j x,Zo x];simp
 have B:∀j b,j<l.length->blockOf (s3.κ (σ j))=some b->owned s3 b:=fun j b x E=>⟨σ j,hRH3.fresh (A j x),A j x,E⟩
 let L:=z8k s s3 w Z l.length σ
 have a9:∀a u,s3.m a=some u->L.m a=some u:=by
  intro a u Y;show (z8k s s3 w Z l.length σ).m a=some u;simp only[z8k];rcases hstep.new a u Y with h1|h1|h1
  ·have F:=t.mem_lt (a:=a) (v:=u) h1;rw[if_pos F];exact h1
  ·rw[if_neg (by omega),if_neg]
   ·exact(hRH3.mem a u Y).1
   ·rintro⟨j,x,E⟩;exact(hRH3.mem a u Y).2 (B j _ x E)
  ·exact(a2 _ h1).elim
 have a8:∀a u,s.m a=some u->L.m a=some u:=by
  intro a u Y;show (z8k s s3 w Z l.length σ).m a=some u;simp only[z8k];rw[if_pos (t.mem_lt Y)];exact Y
 have p:∀j,j<l.length->L.H (s.nx+j)=s3.H (σ j)/\L.κ (s.nx+j)=s3.κ (σ j):=by
  intro j x;show (z8k s s3 w Z l.length σ).H (s.nx+j)=_/\(z8k s s3 w Z l.length σ).κ (s.nx+j)=_;simp only[z8k];rw[if_pos (by omega),if_pos (by omega),ZT];exact⟨rfl,rfl⟩
 have q:∀i,¬(s.nx<=i/\i<s.nx+l.length)->L.H i=s.H i/\L.κ i=s.κ i:=by
  intro i C;show (z8k s s3 w Z l.length σ).H i=_/\(z8k s s3 w Z l.length σ).κ i=_;simp only[z8k];rw[if_neg C,if_neg C];exact⟨rfl,rfl⟩
 have a3:∀i,i<s.nx->L.H i=s.H i/\L.κ i=s.κ i:=fun i C=>q i (by omega)
 have z:Later s L:=⟨by show s.nx<=s.nx+_;omega,a8,fun id a1=>by
  obtain⟨O,R⟩:=a3 id a1
  rw[O,R];exact objLe.refl _ _⟩
 have X:∀k,owned L k->owned s k \/ (w.heap.size<=k/\∃j,j<l.length/\blockOf (s3.κ (σ j))=some k):=by
  rintro k ⟨id,a1,hH,E⟩
  by_cases C:s.nx<=id/\id<s.nx+l.length
  ·obtain⟨j,rfl⟩:∃j,id=s.nx+j:=⟨id-s.nx,by omega⟩
   have x:j<l.length:=by omega
   rw[(p j x).2]at E;exact .inr ⟨G k (B j k x E),j,x,E⟩
  ·obtain⟨O,R⟩:=q id C;rw[O]at hH;rw[R]at E;exact .inl ⟨id,t.fresh hH,hH,E⟩
 have a6:L.H=addL s.H s.nx l:=by
  funext i
  rw[zng]
  by_cases C:s.nx<=i/\i<s.nx+l.length
  ·obtain⟨j,rfl⟩:∃j,i=s.nx+j:=⟨i-s.nx,by omega⟩
   have x:j<l.length:=by omega
   rw[if_pos C,(p j x).1,hobj j x,ZT]
  ·rw[if_neg C,(q i C).1]
 refine⟨v,renD (fun j=>s.nx+j) r,L,he,⟨rfl,a6,rfl⟩,?_,?_,rel_ren a9 (fun j x=>by show s.nx+j<s.nx+_;omega) p r v hr hres⟩
 ·refine⟨hstep.os,hstep.tape,hstep.output,hstep.size,z.nx,a8,fun a u Y=>?_,z.objs,fun k hk _=>W k hk,fun k hk=>?_⟩
  ·by_cases F:a.block<w.heap.size
   ·refine .inl ?_;have y:(z8k s s3 w Z l.length σ).m a=some u:=Y;simp only[z8k]at y;rw[if_pos F]at y;exact y
   ·exact .inr (.inl (by omega))
  ·rcases X k hk with h1|⟨h1,_⟩
   ·exact .inl h1
   ·exact .inr h1
 ·refine⟨fun a u Y=>?_,fun id o J=>?_,fun i j C x a7 U=>?_,fun g=>rel.later z _ _ (t.glob g)⟩
  ·have y:(z8k s s3 w Z l.length σ).m a=some u:=Y;simp only[z8k]at y;split at y
   ·rename_i F;obtain⟨h1,h2⟩:=t.mem a u y;refine⟨by rw[z6f (W _ F)];exact h1,fun h3=>?_⟩;rcases X _ h3 with h4|⟨h4,_⟩
    ·exact h2 h4
    ·omega
   ·rename_i F;split at y
    ·cases y
    ·rename_i b3;refine⟨y,fun h3=>?_⟩;rcases X _ h3 with h4|⟨_,h4⟩
     ·exact F (t.owned_lt h4)
     ·exact b3 h4
  ·by_cases C:s.nx<=id/\id<s.nx+l.length
   ·obtain⟨j,rfl⟩:∃j,id=s.nx+j:=⟨id-s.nx,by omega⟩
    have x:j<l.length:=by omega
    obtain⟨O,R⟩:=p j x;rw[O,hobj j x,Zo x]at J;cases J;refine⟨by show s.nx+j<s.nx+_;omega,?_⟩;rw[R];exact objOK.pure a9 (ho _ (ZK x)) (hRH3.obj (σ j) _ (by rw[hobj j x,Zo x])).2
   ·obtain⟨O,R⟩:=q id C;rw[O]at J;obtain⟨h1,h2⟩:=t.obj id o J;refine⟨by show id<s.nx+_;omega,?_⟩;rw[R];exact h2.mono z fun b b2=>W b (h2.lt b2)
  ·by_cases h1:s.nx<=i/\i<s.nx+l.length
   ·obtain⟨i',rfl⟩:∃j,i=s.nx+j:=⟨i-s.nx,by omega⟩
    have a0:i'<l.length:=by omega
    rw[(p i' a0).2]at U⊢;cases E:blockOf (s3.κ (σ i'))with
    |none=>exact(U E).elim
    |some b =>
     have b7:=G b (B i' b a0 E)
     by_cases h2:s.nx<=j/\j<s.nx+l.length
     ·obtain⟨N,rfl⟩:∃N,j=s.nx+N:=⟨j-s.nx,by omega⟩
      have M:N<l.length:=by omega
      rw[(p N M).2,<-E];exact hRH3.apart (σ i') (σ N) (A i' a0) (A N M) (fun e=>a7 (by rw[hinj i' N a0 M e])) (by rw[E];simp)
     ·obtain⟨O,R⟩:=q j h2;rw[O]at x;rw[R];intro e;have:=t.owned_lt (k:=b) ⟨j,t.fresh x,x,e.symm⟩;omega
   ·obtain⟨O,R⟩:=q i h1;rw[O]at C;rw[R]at U⊢
    by_cases h2:s.nx<=j/\j<s.nx+l.length
    ·obtain⟨N,rfl⟩:∃N,j=s.nx+N:=⟨j-s.nx,by omega⟩
     have M:N<l.length:=by omega
     rw[(p N M).2];cases E:blockOf (s.κ i)with
     |none=>exact(U E).elim
     |some b =>
      intro e;have h3:=G b (B N b M e.symm);have:=t.owned_lt (k:=b) ⟨i,t.fresh C,C,E⟩;omega
    ·obtain⟨e3,e4⟩:=q j h2;rw[e3]at x;rw[e4];exact t.apart i j C x a7 U

section
variable {st:St}{dst:Option Nat}{n:FuncId}{cap args:List D}{g:List Oper->(St->Prop)->St->Prop}{rest:List Oper}{K:St->Prop}
theorem OC.ac{f:FuncId}{ds:List D}{d:List HObj}{r:D}(h:OC P f ds d r){H:HM}{nx:Nat}{K:D->HM->Nat->Prop}(i:K (renD (fun j=>nx+j) r) (addL H nx d) (nx+d.length)):AC P f ds H nx K :=
 (h.2.2.2 H nx).mono fun _ _ _ ⟨e,h2,h3⟩=>by subst e;subst h2;subst h3;exact i
theorem zcx{d:List HObj}{r:D}(h:OC P n (args++cap) d r)(e:g rest K ((st.withH (addL st.H st.nx d) (st.nx+d.length)).put dst (renD (fun j=>st.nx+j) r))):zrw P (.fn n cap) args g rest K st dst :=
 z2i (h.ac e)
def isRow:HObj->Bool
 | .row .. => true
 |_=>false
theorem zya(st:St){d:List HObj}(p:d.all isRow=true):zb7 st (addL st.H st.nx d) (st.nx+d.length):=by
 refine⟨Nat.le_add_right _ _,fun id=>⟨fun i e j h=>?_,fun i e j h=>?_⟩⟩
 ·rw[zng,if_neg (by omega)];exact h
 ·rw[zng]at h;split at h
  ·rename_i m;obtain⟨o,l⟩:=List.getElem?_eq_some_iff.1 h;have:=Zc.1 p _ (ZK o);rw[l]at this;cases this
  ·exact⟨by omega,h⟩
theorem zev{own:List Nat}{d:List HObj}{r:D}(h:OC P n (args++cap) d r)(e:z0s 5000000 own dst=false)(m:z0s 4000000 own dst=true)(o:d.all isRow=true)
  (l:g rest K ((st.withH (addL st.H st.nx d) (st.nx+d.length)).put dst (renD (fun j=>st.nx+j) r))) (p:tcM own dst=none:=by rfl) (i:z0s 10000000 own dst=false:=by rfl):zrx P own (.fn n cap) args g rest K st dst :=
 .inr (.inr ⟨e,m,_,_,_,h.2.2.2 st.H st.nx,.inl ⟨p,.inl ⟨i,zya st o⟩⟩,l⟩)
end
attribute [go_sem] addL renD renD.renL
end Abs
namespace Abs
open Go.RowKit
variable {P:Program}

def lowD(n:Nat):D->Bool
 | .osl j _=>decide (j<n)
 | .ptr j _=>decide (j<n)
 | .eptr j _ _=>decide (j<n)
 | .mp j=>decide (j<n)
 | .it j=>decide (j<n)
 | .agg h=>lowL h
 | .tup h=>lowL h
 | .rsl _ _ e=>lowL e
 | .fsl _ e=>lowL e
 | .rptr d=>lowD n d
 | .fn _ cap=>lowL cap
 | .bfn _ first=>lowL first
 |_=>true
where lowL:List D->Bool
 |[]=>true
 |d::h=>lowD n d&&lowL h
def lowO(n:Nat):HObj->Bool
 | .box _ d=>lowD.lowL n d
 | .row _ _ d=>lowD.lowL n d
 | .map e=>lowD.lowL n (e.map (·.1))&&lowD.lowL n (e.map (·.2))
 | .raw _=>true
mutual
theorem zcy(n:Nat):∀d,pureD d=true->lowD n d=true
 | .agg i,h=>by simp only[pureD]at h;simp only[lowD];exact z58 n i h
 | .tup i,h=>by simp only[pureD]at h;simp only[lowD];exact z58 n i h
 | .rsl _ _ e,h=>by simp only[pureD]at h;simp only[lowD];exact z58 n e h
 | .fsl _ e,h=>by simp only[pureD]at h;simp only[lowD];exact z58 n e h
 | .rptr d,h=>by simp only[pureD]at h;simp only[lowD];exact zcy n d h
 | .fn _ cap,h=>by simp only[pureD]at h;simp only[lowD];exact z58 n cap h
 | .bfn _ first,h=>by simp only[pureD]at h;simp only[lowD];exact z58 n first h
 | .any,_=>rfl
 | .int _ _,_=>rfl
 | .bool _,_=>rfl
 | .str _,_=>rfl
 | .nil,_=>rfl
 | .nptr,_=>rfl
 | .nfun,_=>rfl
 | .nmp,_=>rfl
 | .e0,_=>rfl
 | .osl ..,h=>by cases h
 | .ptr ..,h=>by cases h
 | .eptr ..,h=>by cases h
 | .mp _,h=>by cases h
 | .it _,h=>by cases h
theorem z58(n:Nat):∀e,pureD.pureL e=true->lowD.lowL n e=true
 |[],_=>rfl
 |d::e,h=>by
  simp only[pureD.pureL,Z1]at h;simp only[lowD.lowL,zcy n d h.1,z58 n e h.2,ZF]
end
mutual
theorem zvz{s:RS}:∀(d:D) (v:Value),rel s d v->lowD s.nx d=true
 | .agg l,v,h=>by simp only[rel]at h;obtain⟨e,_,i,_⟩:=h;simp only[lowD];exact z6k l e i
 | .tup l,v,h=>by simp only[rel]at h;obtain⟨e,_,i⟩:=h;simp only[lowD];exact z6k l e i
 | .rsl _ _ j,v,h=>by
  simp only[rel]at h;simp only[lowD];rcases h with ⟨_,h,_⟩|⟨_,_,e,_,_,_,m,_⟩
  ·rw[h];rfl
  ·exact z6k j e m
 | .fsl _ j,v,h=>by
  simp only[rel]at h;simp only[lowD];rcases h with ⟨h,_⟩|⟨_,e,_,_,m,_⟩
  ·rw[h];rfl
  ·exact z6k j e m
 | .rptr d,v,h=>by simp only[rel]at h;obtain⟨_,u,_,i,_⟩:=h;simp only[lowD];exact zvz d u i
 | .fn _ cap,v,h=>by simp only[rel]at h;obtain⟨e,_,i⟩:=h;simp only[lowD];exact z6k cap e i
 | .bfn _ first,v,h=>by simp only[rel]at h;obtain⟨e,_,i⟩:=h;simp only[lowD];exact z6k first e i
 | .any,_,_=>rfl
 | .int _ _,_,_=>rfl
 | .bool _,_,_=>rfl
 | .str _,_,_=>rfl
 | .nil,_,_=>rfl
 | .nptr,_,_=>rfl
 | .nfun,_,_=>rfl
 | .nmp,_,_=>rfl
 | .e0,_,_=>rfl
 | .osl ..,v,h=>by simp only[rel]at h;simp only[lowD,decide_eq_true_iff];exact h.1
 | .ptr ..,v,h=>by simp only[rel]at h;simp only[lowD,decide_eq_true_iff];exact h.1
 | .eptr ..,v,h=>by simp only[rel]at h;simp only[lowD,decide_eq_true_iff];exact h.1
 | .mp _,v,h=>by simp only[rel]at h;simp only[lowD,decide_eq_true_iff];exact h.1
 | .it _,v,h=>by simp only[rel]at h;simp only[lowD,decide_eq_true_iff];exact h.1
theorem z6k{s:RS}:∀(ds:List D) (vs:List Value),relAll s ds vs->lowD.lowL s.nx ds=true
 |[],_,_=>rfl
 |d::ds,vs,h=>by
  simp only[relAll]at h;obtain⟨v,r,_,e,i⟩:=h;simp only[lowD.lowL,zvz d v e,z6k ds r i,ZF]
end
theorem zpu{s:RS}{w:World}{v:Value}{o:HObj}(h:objOK P s w v o):lowO s.nx o=true:=by
 cases o with
 |box e d=>obtain⟨_,i,_,_,h,_⟩:=h;exact z6k d i h
 |row e n d=>obtain⟨i,_,h,_⟩:=h;exact z6k d i h
 |map m=>obtain⟨_,_,_,_,_,j,l,_⟩:=h;simp only[lowO,z6k _ _ j,z6k _ _ l,ZF]
 |raw o=>rfl
mutual
theorem znh{s s':RS}{n:Nat}(t:∀a v,s.m a=some v->s'.m a=some v)(y:n<=s'.nx)(l:∀id,id<n->s'.H id=s.H id/\s'.κ id=s.κ id) :
  ∀(d:D) (v:Value),lowD n d=true->rel s d v->rel s' d v
 | .agg B,v,e,h=>by
  simp only[lowD]at e;simp only[rel]at h⊢;obtain⟨p,q,r,x⟩:=h;exact⟨p,q,z3z t y l B p e r,x⟩
 | .tup B,v,e,h=>by
  simp only[lowD]at e;simp only[rel]at h⊢;obtain⟨p,q,r⟩:=h;exact⟨p,q,z3z t y l B p e r⟩
 | .rsl F E w,v,e,h=>by
  simp only[lowD]at e;simp only[rel]at h⊢;rcases h with h|⟨a,cap,p,q,r,x,C,z⟩
  ·exact .inl h
  ·exact .inr ⟨a,cap,p,q,r,x,z3z t y l w p e C,fun i u A=>⟨(z i u A).1,(z i u A).2.later t⟩⟩
 | .fsl E w,v,e,h=>by
  simp only[lowD]at e;simp only[rel]at h⊢;rcases h with h|⟨a,p,q,x,C,z⟩
  ·exact .inl h
  exact .inr ⟨a,p,q,x,z3z t y l w p e C,fun i u A=>⟨(z i u A).1,(z i u A).2.later t⟩⟩
 | .rptr d,v,e,h=>by
  simp only[lowD]at e;simp only[rel]at h⊢;obtain⟨a,u,q,r,x⟩:=h;exact⟨a,u,q,znh t y l d u e r,x.later t⟩
 | .fn f cap,v,e,h=>by
  simp only[lowD]at e;simp only[rel]at h⊢;obtain⟨p,q,r⟩:=h;exact⟨p,q,z3z t y l cap p e r⟩
 | .bfn f first,v,e,h=>by
  simp only[lowD]at e;simp only[rel]at h⊢;obtain⟨p,q,r⟩:=h;exact⟨p,q,z3z t y l first p e r⟩
 | .any,_,_,_=>by simp[rel]
 | .int _ _,v,_,h=>by simpa [rel] using h
 | .bool _,v,_,h=>by simpa [rel] using h
 | .str _,v,_,h=>by simpa [rel] using h
 | .nil,v,_,h=>by simpa [rel] using h
 | .nptr,v,_,h=>by simpa [rel] using h
 | .nfun,v,_,h=>by simpa [rel] using h
 | .nmp,v,_,h=>by simpa [rel] using h
 | .e0,v,_,h=>by simpa [rel] using h
 | .osl j k,v,e,h=>by
  simp only[lowD,decide_eq_true_iff]at e;simp only[rel]at h⊢;rw[(l j e).1,(l j e).2];exact⟨by omega,h.2⟩
 | .ptr j k,v,e,h=>by
  simp only[lowD,decide_eq_true_iff]at e;simp only[rel]at h⊢;rw[(l j e).1,(l j e).2];exact⟨by omega,h.2⟩
 | .eptr j k o,v,e,h=>by
  simp only[lowD,decide_eq_true_iff]at e;simp only[rel]at h⊢;rw[(l j e).1,(l j e).2];exact⟨by omega,h.2⟩
 | .mp j,v,e,h=>by
  simp only[lowD,decide_eq_true_iff]at e;simp only[rel]at h⊢;rw[(l j e).1,(l j e).2];exact⟨by omega,h.2⟩
 | .it j,v,e,h=>by
  simp only[lowD,decide_eq_true_iff]at e;simp only[rel]at h⊢;rw[(l j e).1,(l j e).2];exact⟨by omega,h.2⟩
theorem z3z{s s':RS}{n:Nat}(j:∀a v,s.m a=some v->s'.m a=some v)(l:n<=s'.nx)(i:∀id,id<n->s'.H id=s.H id/\s'.κ id=s.κ id) :
  ∀(ds:List D) (vs:List Value),lowD.lowL n ds=true->relAll s ds vs->relAll s' ds vs
 |[],vs,_,h=>by simpa [relAll] using h
 |d::ds,vs,e,h=>by
  simp only[lowD.lowL,Z1]at e;simp only[relAll]at h⊢;obtain⟨v,r,o,p,q⟩:=h;exact⟨v,r,o,znh j l i d v e.1 p,z3z j l i ds r e.2 q⟩
end
theorem zpv{s s':RS}{n:Nat}{w:World}{v:Value}{o:HObj}(t:∀a v,s.m a=some v->s'.m a=some v)(u:n<=s'.nx)(q:∀id,id<n->s'.H id=s.H id/\s'.κ id=s.κ id)
  (l:lowO n o=true) (h:objOK P s w v o):objOK P s' w v o:=by
 cases o with
 |box e z =>
  obtain⟨b,y,d,i,j,p⟩:=h;exact⟨b,y,d,i,z3z t u q _ _ l j,p⟩
 |row e k z =>
  obtain⟨y,d,i,j⟩:=h;exact⟨y,d,z3z t u q _ _ l i,j⟩
 |map A =>
  simp only[lowO,Z1]at l;obtain⟨r,x,c,d,i,j,p⟩:=h;exact⟨r,x,c,d,i,z3z t u q _ _ l.1 j,z3z t u q _ _ l.2 p.1,p.2⟩
 |raw o=>exact h
def cutH(n:Nat)(H:HM):HM:=fun id=>if id<n then H id else none
theorem ztn{f:FuncId}{ds:List D}{H:HM}{nx:Nat}{K:D->HM->Nat->Prop}(h:AC P f ds H nx K)
  (X:∀r z x,K r z x->lowD nx r=true/\∀id o,id<nx->z id=some o->H id=some o \/ lowO nx o=true) :
  AC P f ds H nx fun r O F=>F=nx/\∃z x,K r z x/\O=cutH nx z:=by
 refine⟨h.1,fun s w Z G J L R=>(h.2 s w Z G J L R).mono fun e w' ⟨v,r,s',he,hK,hstep,hRH,hr⟩=>?_⟩;subst G;subst J;obtain⟨Y,E⟩:=X _ _ _ hK
 let m:RS:={ s' with H:=cutH s.nx s'.H,nx:=s.nx }
 have y:∀id,id<s.nx->m.H id=s'.H id/\m.κ id=s'.κ id:=fun id l=>⟨if_pos l,rfl⟩
 have p:∀(d:D) (v:Value),lowD s.nx d=true->rel s' d v->rel m d v:=znh (s:=s') (s':=m) (fun _ _ h=>h) (Za _) y;have q:∀k,owned m k->owned s' k:=fun k ⟨id,l,h5,h6⟩=>by
  rw[(y id l).1]at h5;exact⟨id,Zp l hstep.nx,h5,h6⟩
 refine⟨v,r,m,he,⟨rfl,s'.H,s'.nx,hK,rfl⟩,?_,?_,p r v Y hr⟩
 ·exact⟨hstep.os,hstep.tape,hstep.output,hstep.size,Za _,hstep.mem,hstep.new,fun id l=>by rw[(y id l).1];exact hstep.objs id l,hstep.keep,fun k C=>hstep.own k (q k C)⟩
 ·refine⟨fun a u M=>⟨(hRH.mem a u M).1,fun t=>(hRH.mem a u M).2 (q _ t)⟩,fun id o t=>?_,fun i j A W B U=>?_,fun g=>?_⟩
  ·have l:id<s.nx:=by
    rcases ZB id s.nx with h9|h9
    ·exact h9
    ·have:m.H id=none:=if_neg (by omega);rw[this]at t;cases t
   rw[(y id l).1]at t;refine⟨l,zpv (s:=s') (s':=m) (n:=s.nx) (fun _ _ h=>h) (Za _) y ?_ (hRH.obj id o t).2⟩;rcases E id o l t with h9|h9
   ·exact zpu (s:=s) (L.obj id o h9).2
   ·exact h9
  ·have N:∀i,m.H i≠none->i<s.nx/\s'.H i≠none:=fun i A=>by
    rcases ZB i s.nx with h9|h9
    ·exact⟨h9,by rw[<-(y i h9).1];exact A⟩
    ·exact(A (if_neg (by omega))).elim
   exact hRH.apart i j (N i A).2 (N j W).2 B U
  ·exact p _ _ (zcy _ _ (z8d g)) (hRH.glob g)

def Eff{σ:Type}(P:Program)(f:FuncId)(ds:List D)(lo:Nat)(I:σ->HM->Prop)(s s':σ)(r:D):Prop :=
 ∀H d,lo<=d->I s H->AC P f ds H d fun i h e=>i=r/\e=d/\I s' h/\∀id,lo<=id->h id=H id
structure Low {σ:Type}(lo:Nat) (I:σ->HM->Prop):Prop where
 loc:∀s H H',(∀id,id<lo->H' id=H id)->I s H->I s H'
 low:∀s H,I s H->∀id o,id<lo->H id=some o->lowO lo o=true
mutual
theorem zpw{m n:Nat}(h:m<=n):∀d,lowD m d=true->lowD n d=true
 | .agg j,e=>by simp only[lowD]at e⊢;exact z59 h j e
 | .tup j,e=>by simp only[lowD]at e⊢;exact z59 h j e
 | .rsl _ _ i,e=>by simp only[lowD]at e⊢;exact z59 h i e
 | .fsl _ i,e=>by simp only[lowD]at e⊢;exact z59 h i e
 | .rptr d,e=>by simp only[lowD]at e⊢;exact zpw h d e
 | .fn _ cap,e=>by simp only[lowD]at e⊢;exact z59 h cap e
 | .bfn _ first,e=>by simp only[lowD]at e⊢;exact z59 h first e
 | .any,_=>rfl
 | .int _ _,_=>rfl
 | .bool _,_=>rfl
 | .str _,_=>rfl
 | .nil,_=>rfl
 | .nptr,_=>rfl
 | .nfun,_=>rfl
 | .nmp,_=>rfl
 | .e0,_=>rfl
 | .osl ..,e=>by simp only[lowD,decide_eq_true_iff]at e⊢;omega
 | .ptr ..,e=>by simp only[lowD,decide_eq_true_iff]at e⊢;omega
 | .eptr ..,e=>by simp only[lowD,decide_eq_true_iff]at e⊢;omega
 | .mp _,e=>by simp only[lowD,decide_eq_true_iff]at e⊢;omega
 | .it _,e=>by simp only[lowD,decide_eq_true_iff]at e⊢;omega
theorem z59{m n:Nat}(h:m<=n):∀e,lowD.lowL m e=true->lowD.lowL n e=true
 |[],_=>rfl
 |d::e,i=>by
  simp only[lowD.lowL,Z1]at i⊢;exact⟨zpw h d i.1,z59 h e i.2⟩
end
theorem lowO_mono{m n:Nat}(h:m<=n){o:HObj}(d:lowO m o=true):lowO n o=true:=by
 cases o with
 |box e i=>exact z59 h i d
 |row e k i=>exact z59 h i d
 |map j=>simp only[lowO,Z1]at d⊢;exact⟨z59 h _ d.1,z59 h _ d.2⟩
 |raw o=>rfl
theorem zbs{σ:Type}{f:FuncId}{ds:List D}{lo:Nat}{I:σ->HM->Prop}{s s':σ}{r:D}(y:Low lo I)(F:pureD r=true)
  (h:∀H p,lo<=p->I s H->AC P f ds H p fun A j _=>A=r/\I s' j/\∀id,lo<=id->id<p->j id=H id):Eff P f ds lo I s s' r:=by
 intro H p l G
 have x:=ztn (h H p l G) (fun A j q ⟨i,hi,hs'⟩=>by
  subst i;refine⟨zcy _ _ F,fun id o d z=>?_⟩;rcases ZB id lo with h9|h9
  ·exact .inr (lowO_mono l (y.low s' j hi id o h9 z))
  ·exact .inl (by rw[<-hs' id h9 d];exact z))
 refine⟨x.1,fun s w J t B u C=>(x.2 s w J t B u C).mono fun e L ⟨v,r1,s1,he,⟨hnx,j,q,⟨i,hi,hs'⟩,hcut⟩,hstep,hRH,hrel⟩=>⟨v,r1,s1,he,⟨i,hnx,?_,fun id d=>?_⟩,hstep,hRH,hrel⟩⟩
 ·refine y.loc _ j _ (fun id d=>?_) hi;rw[hcut];exact if_pos (by omega)
 ·rw[hcut];unfold cutH;split
  ·rename_i m;exact hs' id d m
  ·rename_i m;cases E:H id with
   |none=>rfl
   |some o =>
    have:=(u.obj id o (by rw[t];exact E)).1;omega
theorem PC.eff{f:FuncId}{ds:List D}{r:D}(h:PC P f ds r){lo:Nat}{σ:Type}{I:σ->HM->Prop}(s:σ):Eff P f ds lo I s s r:=fun H i _ e =>
 (h.rc H i).mono fun _ _ _ ⟨d,h2,h3⟩=>⟨d,h3,by rw[h2];exact e,fun id _=>by rw[h2]⟩
theorem z8l{σ:Type}{lo:Nat}{I:σ->HM->Prop}{s s':σ}{r:D}{n:FuncId}{args cap:List D}{g:List Oper->(St->Prop)->St->Prop}{rest:List Oper}{K:St->Prop}{st:St}{dst:Option Nat}
  (h:Eff P n (args++cap) lo I s s' r) (e:lo<=st.nx) (l:I s st.H)
  (j:∀d,I s' d->(∀id,lo<=id->d id=st.H id)->g rest K ((st.withH d st.nx).put dst r)):zrw P (.fn n cap) args g rest K st dst :=
 z2i ((h st.H st.nx e l).mono fun o d m ⟨i,h2,h3,h4⟩=>by subst i;subst h2;exact j d h3 h4)
theorem zpx{st:St}{b:Nat}{e:TypeId}(p:TypeId)(l:st.H b=some (.box e [.nil])) :
  SealTo P st { st with H:=z0m (z0m st.H st.nx (some (.row p 0 []))) b (some (.box e [.osl st.nx 0])),nx:=st.nx+1 }:=by
 intro N s a w d;have j:s.H b=some (.box e [.nil]):=by rw[d.H];exact l
 have o:b≠s.nx:=by have:=(d.heap.obj b _ j).1;omega
 obtain⟨q,t⟩:=z7u d.heap (Grew.refl w) (.row p 0 []) (.slice none 0 0) (fun b l=>by cases l) ⟨[],⟨by simp,.inl ⟨rfl,rfl⟩⟩,z15,by intro v A;cases A⟩;have m:(s.add (.slice none 0 0) (.row p 0 [])).H b=some (.box e [.nil]):=by simp[RS.add,z0m,o,j]
 obtain⟨_,B⟩:=t.obj b _ m
 obtain⟨u,z⟩:=z90 (w':=w) t b _ (.box e [.osl s.nx 0]) ((s.add (.slice none 0 0) (.row p 0 [])).κ b) m rfl rfl rfl (Za _) (fun _ _ _=>rfl) (.inr ⟨_,rfl,rfl⟩) (fun b l=>.inl l) (fun O=>by
  obtain⟨y,G,C,E,x,F⟩:=B;refine⟨y,G,C,E,?_,F⟩;simp only[relAll,rel]at x;obtain⟨v,r,rfl,rfl,rfl⟩:=x;refine z0y ?_ z15;simp only[rel];refine⟨by simp[RS.set,RS.add],⟨_,_,rfl⟩,fun L k J M=>⟨ZY _,fun _=>?_⟩⟩;simp only[RS.set,RS.add];rw[if_neg (fun h=>o h.symm)]
  simp)
 refine⟨_,⟨?_,?_,d.size,d.defers,fun i=>rel.later (q.trans u).later _ _ (d.tmps i),z⟩,q.trans u⟩
 ·simp only[RS.set,RS.add,d.H,d.nx]
 ·simp only[RS.set,RS.add,d.nx]
theorem z33{id:Nat}{l:List Oper}{b:Code}{own:List Nat}{Q:Exit->St->Prop}{st:St}(h:∀K:St->Prop,(∀st d,SealTo P st d->awp P own b Q d->K st)->z2y P own (l.map (·.dst)) l K st):awp P own (.seq (.region id l.toArray false) b) Q st :=
 ⟨fun h=>(by cases h),fun _=>h _ fun _ d i e=>⟨d,i,e⟩⟩
theorem zni{σ:Type}{lo:Nat}(d:σ->List HObj)(r:∀s,(d s).length=lo)(p:∀s,∀o∈d s,lowO lo o=true):Low lo fun s H=>∀j,j<lo->H j=(d s)[j]? :=
 ⟨fun s H q h i j m=>(h j m).trans (i j m),fun s H i id o e l=>by
  rw[i id e]at l
  exact p s o (ZZ l)⟩
end Abs
namespace Abs
open Go.RowKit
variable {P:Program}
theorem znj{s:RS}{w:World}(e:RH P s w){h:HM}(j:∀id,id<s.nx->h id=s.H id):cutH s.nx h=s.H:=by
 funext id
 unfold cutH;split
 ·rename_i d;exact j id d
 ·rename_i d;cases i:s.H id with
  |none=>rfl
  |some o=>have:=(e.obj id o i).1;omega
theorem RC_keep{f:FuncId}{ds:List D}{H:HM}{nx:Nat}{r:D}(z:pureD r=true)
  (h:AC P f ds H nx fun u i _=>u=r/\∀id,id<nx->i id=H id):RC P f ds H nx r:=by
 have t:=ztn h (fun u i l ⟨d,hk⟩=>by
  subst d
  exact⟨zcy _ _ z,fun id o j y=>.inl (by rw[<-hk id j];exact y)⟩)
 refine⟨t.1,fun s w A m p q x=>(t.2 s w A m p q x).mono fun e B ⟨v,r1,s1,he,⟨hnx,i,l,⟨d,hk⟩,hcut⟩,hstep,hRH,hrel⟩=>⟨v,r1,s1,he,⟨d,?_,hnx⟩,hstep,hRH,hrel⟩⟩;subst m;subst p;rw[hcut];exact znj q hk
theorem z40{α:Type}{i j:Nat}{a b:α}(h:¬i=j):(bif i==j then a else b)=b:=by
 rw[show (i==j)=false from by simpa using h];rfl
theorem z05:(∀(p:Prop) [Decidable p],(decide p=true)=p)/\(∀(p:Prop) [Decidable p],(decide p=false)=¬p)/\(∀p:Prop,(¬¬p) ↔ p)/\(∀(α:Type) [BEq α] [LawfulBEq α] (a b:α),(a==b)=true ↔ a=b)/\(∀(α:Type) [BEq α] [LawfulBEq α] (a b:α),(a==b)=false ↔ a≠b)/\(∀(α:Type) [BEq α] [LawfulBEq α] (a b:α),(a != b)=true ↔ a≠b)/\(∀(α:Type) (a b:α),(a≠b)=¬(a=b))/\(∀b:Bool,((!b)=true)=(b=false))/\(∀b:Bool,((!b)=false)=(b=true))/\(∀a b:Bool,((a&&b)=true)=(a=true/\b=true))/\(∀a b:Bool,((a ||b)=true)=(a=true \/ b=true))/\(∀a b:Bool,((a&&b)=false)=(a=true->b=false))/\(∀a b:Bool,((a ||b)=false)=(a=false/\b=false))/\(∀b:Bool,(¬(b=true))=(b=false))/\(∀b:Bool,(¬(b=false))=(b=true)) :=
 ⟨fun p _=>decide_eq_true_eq,fun p _=>by simp,fun p=>Classical.not_not,fun α _ _ a b=>beq_iff_eq,fun α _ _ a b=>beq_eq_false_iff_ne,fun α _ _ a b=>bne_iff_ne,fun α a b=>rfl,fun b=>by cases b<;>simp,fun b=>by cases b<;>simp,fun a b=>by cases a<;>cases b<;>simp,fun a b=>by cases a<;>cases b<;>simp,fun a b=>by cases a<;>cases b<;>simp,fun a b=>by cases a<;>cases b<;>simp,fun b=>by cases b<;>simp,fun b=>by cases b<;>simp⟩
/-- A step of a walk that needs nothing. -/
class Nx (A:Prop) (B:outParam Prop):Prop where
  h:B->A
theorem nxt{A B:Prop}[i:Nx A B](h:B):A:=i.h h
section
variable {P:Program}{own:List Nat}{Q Q':Exit->St->Prop}{st:St}{a b c:Code}{k:St->Prop}{id n:Nat}{I:Nat->St->Prop}
instance:Nx (awp P own (.seq (.seq a b) c) Q st) (awp P own (.seq a (.seq b c)) Q st):=⟨zqj⟩
instance:Nx (awp P own (.seq (.block id c) b) Q st) (awp P own c (zuj id (zo8 (fun st=>∃st',SealTo P st st'/\awp P own b Q st') Q)) st):=⟨zqa⟩
instance:Nx (awp P own (.block id c) Q st) (awp P own c (zuj id Q) st):=⟨zqi⟩
instance:Nx (awp P own (.seq .skip b) Q st) (awp P own b Q st):=⟨zqb⟩
instance:Nx (awp P own (.seq .ret b) Q st) (Q .ret st):=⟨zqg⟩
instance:Nx (awp P own (.seq (.exit id) b) Q st) (Q (.exit id) st):=⟨zqc⟩
instance:Nx (awp P own .skip Q st) (Q .normal st):=⟨zqk⟩
instance:Nx (awp P own .ret Q st) (Q .ret st):=⟨zqn⟩
instance:Nx (zo8 (fun st=>∃st',SealTo P st st'/\awp P own b Q st') Q' .normal st) (awp P own b Q st):=⟨zqv⟩
instance:Nx (zo8 k Q .ret st) (Q .ret st):=⟨zqx⟩
instance:Nx (zuj id Q .normal st) (Q .normal st):=⟨zqy⟩
instance:Nx (zuj id Q .ret st) (Q .ret st):=⟨zqzb⟩
instance:Nx (zzf I n Q (.exit id) st) (Q (.exit id) st):=⟨zqp⟩
instance:Nx (zzf I n Q .ret st) (Q .ret st):=⟨zqo⟩
end
/-- A walk's end,its values read off. -/
theorem zqU{P:Program}{st:St}{e:Exit}{i:List ResultVar}{K:D->HM->Nat->Prop}{d:D}(j:K d st.H st.nx)(h:resD P st i=some d:=by simp only[go_sem];rfl)(l:isRN e=true:=by rfl):retQ P i K e st:=zqu h l j
/-- A loop: first its round,then its start. -/
theorem zqL{P:Program}{own:List Nat}{st:St}{Q:Exit->St->Prop}{c:Code}(I:Nat->St->Prop)(h:∀n d,I n d->awp P own c (zzf I n Q) d)(e:∃n,I n st):awp P own (.loop c) Q st:=z2w I e h
end Abs
end Go.Proofs.YtppebcifiejplaaGreatDoor
