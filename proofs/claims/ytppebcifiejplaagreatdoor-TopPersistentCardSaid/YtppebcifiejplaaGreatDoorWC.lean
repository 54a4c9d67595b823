import Derived.Test.YtppebcifiejplaaGreatDoorWB
import Derived.ChangeArms
import Derived.DataReads
import Derived.Test.YtppebcifiejplaaGreatDoorProg
import Derived.KernelRfl
import Derived.Test.YtppebcifiejplaaGreatDoorRows
import Derived.OpenShut
import Derived.LaidMore
import Derived.MakeChecks
import Derived.FnData
import Derived.Laws.RangeAny
/-
 Lemmas of the claim. No condition but those that each names.
-/
set_option linter.unusedSimpArgs false
set_option linter.unusedVariables false
set_option maxRecDepth 100000
set_option maxHeartbeats 8000000
set_option linter.unusedSectionVars false
open Nat renaming reduceBEq->Z0,reduceAdd->Z1,reduceLeDiff->Z2,reduceMul->Zv,le_refl->ZL,reduceLT->ZP,lt_or_ge->ZQ,add_comm->Y0,add_mul->Yd,add_assoc->Yk,reduceEqDiff->YD,zero_mul->YK,zero_add->YL,one_mul->YN
open Bool renaming and_self->Z3,and_eq_true->Zf,true_and->Zh,false_eq_true->Zp,false_and->Zw,and_false->ZC,and_true->Y6,false_or->Y7,not_not->Y9,eq_iff_iff->Ye,or_true->YM
open List renaming take_succ_eq_append_getElem->Z4,getElem_mem->Z5,getElem?_cons_succ->Z8,take_of_length_le->Za,flatMap_cons->Zb,map_cons->Zc,length_cons->Zd,getElem?_eq_getElem->Ze,flatMap_append->Zi,map_nil->Zj,getElem?_cons_zero->Zk,mem_cons_of_mem->Zl,map_append->Zm,take_length->Zn,flatMap_nil->Zo,length_append->Zq,mem_cons->Zr,getElem_cons_zero->Zt,drop_succ_cons->Zy,mem_map->Zz,all_eq_true->ZB,take_succ_cons->ZD,drop_zero->ZE,eq_nil_of_length_eq_zero->ZF,mem_singleton->ZG,length_nil->ZH,append_nil->ZI,take_append_drop->ZJ,take_zero->ZK,all_cons->ZM,cons.injEq->ZN,take->ZO,length_pos_iff->ZR,all_map->ZS,getElem?_ofFn->ZT,getElem?_map->ZU,nodup_append->ZV,cons_append->ZX,mem_flatMap->ZY,length_take->ZZ,mem_append->Y2,nil_append->Y4,getElem_of_mem->Y5,map_map->Y8,getElem_take->Ya,length_drop->Yb,drop->Yc,length_map->Yf,find?_cons->Yg,getElem?_eq_some_iff->Yi,mem_of_find?_eq_some->Yj,ofFn->Yn,not_any_eq_all_not->Yo,getElem_cons_succ->Yq,takeWhile_cons->Ys,map_congr_left->Yt,set_cons_zero->Yu,set_cons_succ->Yv,foldl_append->Yw,reverse_cons->Yx,flatten_nil->Yz,not_mem_nil->YB,getElem_map->YC,all_append->YE,foldl_cons->YF,idxOf_cons->YG,nodup_cons->YH,length_set->YI,drop_drop->YJ
open Int renaming natCast_one->Z6,natCast_add->Z7,natCast_zero->Z9,reduceLE->Zu,reduceToNat->Zx,reduceLT->ZA,toNat->YA
open ByteArray renaming empty->Zg
open Option renaming some.injEq->Zs,map_some->Y1,some.inj->Y3,bind_eq_some_iff->Yl,map_eq_some_iff->Yp,getD_some->Yy
open Prod renaming mk.injEq->ZW
open Array renaming getElem?_eq_some_iff->Yh,length_toList->Yr
open Classical renaming axiomOfChoice->Ym
open Go.Proofs.YtppebcifiejplaaGreatDoor.Abs.Le renaming refl->XZ
namespace Go.Proofs.YtppebcifiejplaaGreatDoor
namespace Abs
open Go.RowKit Go.ChangeShapes

def elD(a:Bool)(p:List D):D:=if a=true then .agg p else (p[0]?).getD .any
def elV(a:Bool)(p:List Value):Value:=if a=true then .agg p.toArray else (p[0]?).getD undef
def znw(T:TypeId->List D->Prop):List Field->List D->Prop
 |[],ds=>ds=[]
 |f::c,ds=>∃a b,ds=a++b/\T f.type a/\znw T c b
def z62(P:Program):Nat->TypeId->List D->Prop
 |0,_,_=>False
 |n+1,t,ds=>match P.underlying t with
  |some .bool=>∃b,ds=[.bool b]
  |some (.int k)=>∃i,ds=[.int k i]/\(Lit.int k i).wf=true
  |some .string=>∃s:ByteArray,ds=[.str s]/\s.size<=maxLen
  |some (.slice e)=>∃a:List (List D),a.length<=maxLen/\(∀p∈a,z62 P n e p)/\ds=[.rsl false (z0d P e) (a.map (elD (z0r P e)))]
  |some (.struct c)=>znw (z62 P n) c.toList ds
  |_=>False
def zrb(P:Program)(n:Nat):List Field->Nat->Bool
 |[],a=>a==n
 |f::b,a=>f.offset==a&&zrb P n b (a+P.cellsOf f.type)
def zjs(P:Program)(S:List TypeId):Bool :=
 S.all fun t=>match P.underlying t with
  |some .bool|some (.int _)|some .string=>true
  |some (.slice e)=>S.any fun u=>u==e
  |some (.struct a)=>zrb P (P.cellsOf t) a.toList 0&&a.toList.all fun f=>S.any fun u=>u==f.type
  |_=>false

section
variable {H:Type}{enc:TypeId×Value->H}{P:Program}{W:World}{base:Nat}{spare:Nat->Bool}{held:Bool}
theorem any_mem{S:List TypeId}{e:TypeId}(h:(S.any fun u=>u==e)=true):e∈S:=by
 obtain⟨x,b,a⟩:=List.any_eq_true.1 h;rw[<-beq_iff_eq.1 a];exact b
theorem z82{d:D}{v:Value}(h:rel (z9h W) d v)(b:v.oneCell'=true):relAll (z9h W) [d] [v]/\z7a [v] :=
 ⟨z0y h z15,fun u a=>by simp at a;subst a;exact b⟩
theorem zm8{S:List TypeId}(hS:zjs P S=true):∀(n:Nat) (t:TypeId) (cs:List Value) (x:DataW H×List MemPlace),t∈S->DataW.trod enc P W base spare held n t cs=some x ->
  ∃ds,relAll (z9h W) ds cs/\z7a cs/\z62 P n t ds/\(z0r P t=false->∃c d,cs=[c]/\ds=[d]):=by
 intro n
 induction n with
 |zero=>intro t cs x _ h;simp[DataW.trod]at h
 |succ n ih =>
  intro t cs x ht h;have B:=ZB.1 hS t ht;cases y:P.underlying t with
  |none=>rw[y]at B;cases B
  |some td =>
   rw[y]at B;cases td<;>first|(cases B;done)|skip
   case bool =>
    obtain⟨b,rfl,_⟩:=DataW.trod_bool y h;obtain⟨q,o⟩:=z82 (W:=W) (d:=.bool b) (v:=.bool b) (by simp[rel]) rfl;exact⟨_,q,o,by simp only[z62,y];exact⟨b,rfl⟩,fun _=>⟨_,_,rfl,rfl⟩⟩
   case int k =>
    obtain⟨i,rfl,_,hw⟩:=DataW.trod_int y h;obtain⟨q,o⟩:=z82 (W:=W) (d:=.int k i) (v:=.int k i) (by simp[rel]) rfl;exact⟨_,q,o,by simp only[z62,y];exact⟨i,rfl,hw⟩,fun _=>⟨_,_,rfl,rfl⟩⟩
   case string =>
    obtain⟨s,rfl,_,hw⟩:=DataW.trod_string y h;obtain⟨q,o⟩:=z82 (W:=W) (d:=.str s) (v:=.string s) (by simp[rel]) rfl;exact⟨_,q,o,by simp only[z62,y];exact⟨s,rfl,hw⟩,fun _=>⟨_,_,rfl,rfl⟩⟩
   case slice e =>
    have he:=any_mem B;rcases DataW.trod_slice y h with ⟨rfl,_⟩|⟨a,M,cap,Q,a7,m,hm,rfl,_,_,O,U,a6,X,_⟩
    ·obtain⟨q,o⟩:=z82 (W:=W) (d:=.rsl false (z0d P e) []) (v:=.slice none 0 0) (by simp only[rel];exact .inl ⟨trivial,trivial,trivial⟩) rfl;exact⟨_,q,o,by simp only[z62,y];exact⟨[],by simp,by simp,rfl⟩,fun _=>⟨_,_,rfl,rfl⟩⟩
    ·cases hm;have G:∀i:_root_.Fin M,∃p:List Value×List D,W.cells? base (a.add (i*P.cellsOf e)) (P.cellsOf e)=some p.1/\relAll (z9h W) p.2 p.1/\z7a p.1/\z62 P n e p.2/\(z0r P e=false->∃c d,p.1=[c]/\p.2=[d]):=by
      intro i;have A:=X i i.2;rw[Ze (by omega),Yl]at A;obtain⟨F,q,o⟩:=A;obtain⟨ds,k1,k2,k3,k4⟩:=ih e F _ he o;exact⟨(F,ds),q,k1,k2,k3,k4⟩
     obtain⟨f,Y⟩:=Ym G;have u:∀i,rel (z9h W) (elD (z0r P e) (f i).2) (elV (z0r P e) (f i).1)/\(elV (z0r P e) (f i).1).cells.toList=(f i).1:=by
      intro i;obtain⟨q,o,I,h4,h5⟩:=Y i;cases u:z0r P e with
      |true =>
       simp only[elD,elV,if_true,Value.cells];exact⟨by simp only[rel];exact⟨_,rfl,o,I⟩,trivial⟩
      |false =>
       obtain⟨c,d,C,J⟩:=h5 u;rw[C,J]at o;rw[C]at I;simp only[elD,elV,C,J,Zp,if_false,Zk,Yy];simp only[relAll]at o;obtain⟨v,r,hv,L,hr⟩:=o;simp only[ZN]at hv;obtain⟨rfl,rfl⟩:=hv;refine⟨L,?_⟩;rw[z2v (I c (by simp))]
     have a2:z0d P e=P.cellsOf e:=rfl
     obtain⟨q,o⟩:=z82 (W:=W) (d:=.rsl false (z0d P e) ((Yn fun i=>(f i).2).map (elD (z0r P e)))) (v:=.slice (some a) M cap) (by
      simp only[rel];refine .inr ⟨a,cap,Yn fun i=>elV (z0r P e) (f i).1,by simp,by simpa using O,U,z6u (by simp) (fun i d v N hv=>?_),fun i v hv=>?_⟩
      ·simp only[ZU,ZT]at N hv;split at hv
       ·rename_i A;rw[dif_pos A]at N;simp only[Y1,Zs]at N hv;subst N;subst hv;exact(u ⟨i,A⟩).1
       ·cases hv
      ·simp only[ZT]at hv;split at hv
       ·rename_i A;simp only[Zs]at hv;subst hv;obtain⟨g1,_⟩:=Y ⟨i,A⟩;obtain⟨_,g2,g3⟩:=World.cells?_some g1;have g4:=(u ⟨i,A⟩).2;refine⟨by rw[<-Yr,g4,g2,a2],fun j c hj=>?_⟩;rw[g4]at hj;have a0:j<P.cellsOf e:=by rw[<-g2];exact(Yi.1 hj).1
        have:=g3 j a0;rw[hj]at this;exact this
       ·cases hv) rfl
     refine⟨_,q,o,?_,fun _=>⟨_,_,rfl,rfl⟩⟩;simp only[z62,y];refine⟨Yn fun i=>(f i).2,by simp;omega,fun p hp=>?_,rfl⟩;obtain⟨i,rfl⟩:=List.mem_ofFn.1 hp;exact(Y i).2.2.2.1
   case struct fs =>
    obtain⟨xs,m,hm,_,R,a9,a3⟩:=DataW.trod_struct y h;cases hm;simp only[Zf]at B;obtain⟨E,Z⟩:=B;have a5:∀(l:List Field) (z k:Nat),(∀i,l[i]?=fs[k+i]?)->zrb P (P.cellsOf t) l z=true->∃ds,relAll (z9h W) ds (cs.drop z)/\z7a (cs.drop z)/\znw (z62 P n) l ds:=by
     intro l
     induction l with
     |nil =>
      intro z k _ w;simp only[zrb,beq_iff_eq]at w;subst w;rw[<-R,List.drop_length];exact⟨[],z15,fun v hv=>by simp at hv,rfl⟩
     |cons g l a4 =>
      intro z k O w;simp only[zrb,Zf,beq_iff_eq]at w;obtain⟨rfl,w⟩:=w;have hg:fs[k]?=some g:=by have:=O 0;simpa using this.symm
      have a8:k<fs.size:=(Yh.1 hg).1;have hx:=a3 k g hg;rw[Ze (by omega)]at hx;have K:g∈fs.toList:=by
       obtain⟨q,o⟩:=Yh.1 hg;rw[<-o];exact Array.mem_toList_iff.2 (Array.getElem_mem q)
      obtain⟨d1,r1,r2,r3,_⟩:=ih g.type _ _ (any_mem (ZB.1 Z g K)) hx;obtain⟨d2,q1,q2,q3⟩:=a4 (g.offset+P.cellsOf g.type) (k+1) (fun i=>by have:=O (i+1);simpa [Yk,Y0 1 i] using this) w;have a1:cs.drop g.offset=(cs.drop g.offset).take (P.cellsOf g.type)++cs.drop (g.offset+P.cellsOf g.type):=by
       rw[<-YJ,ZJ]
      rw[a1]
      exact⟨d1++d2,z17 r1 q1,fun v hv=>by
       rcases Y2.1 hv with hv|hv
       ·exact r2 v hv
       ·exact q2 v hv,d1,d2,rfl,r3,q3⟩
    obtain⟨ds,q,o,I⟩:=a5 fs.toList 0 0 (fun i=>by simp) E;rw[ZE]at q o;refine⟨ds,q,o,by simp only[z62,y];exact I,fun u=>?_⟩;simp only[z0r,y]at u;cases u
theorem one_arg{S:List TypeId}(l:zjs P S=true){t:TypeId}{v:Value}{d:DataW H}{p:List MemPlace}(m:t∈S)(i:z0r P t=false)(o:v.oneCell'=true)(h:DataW.Trod enc P W base spare held t v d p) :
  ∃n f,z62 P n t [f]/\rel (z9h W) f v:=by
 obtain⟨n,h⟩:=h;obtain⟨ds,g,_,j,k⟩:=zm8 l n t _ _ m h;obtain⟨c,f,q,rfl⟩:=k i;rw[z2v o]at g;simp only[relAll]at g;obtain⟨s,r,b,a,_⟩:=g;simp only[ZN]at b;obtain⟨rfl,_⟩:=b;exact⟨n,f,j,a⟩
theorem agg_arg{S:List TypeId}(f:zjs P S=true){t:TypeId}{cs:Array Value}{d:DataW H}{p:List MemPlace}(g:t∈S)(h:DataW.Trod enc P W base spare held t (.agg cs) d p) :
  ∃n ds,z62 P n t ds/\rel (z9h W) (.agg ds) (.agg cs):=by
 obtain⟨n,h⟩:=h;obtain⟨ds,a,b,c,_⟩:=zm8 f n t _ _ g h;refine⟨n,ds,c,?_⟩;simp only[rel];exact⟨cs.toList,by simp,by simpa [Value.cells] using a,by simpa [Value.cells] using b⟩
end
section
variable {P:Program}{n:Nat}{t e:TypeId}{d:D}{ds:List D}
theorem wf_i64{i:Int}(h:(Lit.int .i64 i).wf=true) : -9223372036854775808<=i/\i<=9223372036854775807:=by
 simp only[Lit.wf,Zf,decide_eq_true_eq]at h;exact h
theorem z2o(c:P.underlying t=some (.int .i64))(h:z62 P n t ds):∃i:Int,ds=[.int .i64 i] /\ -9223372036854775808<=i/\i<=9223372036854775807:=by
 cases n with
 |zero=>exact h.elim
 |succ n =>
  simp only[z62,c]at h;obtain⟨i,a,b⟩:=h;exact⟨i,a,wf_i64 b⟩
theorem z7i(a:P.underlying t=some .string)(h:z62 P n t ds):∃s:ByteArray,ds=[.str s]/\s.size<=maxLen:=by
 cases n with
 |zero=>exact h.elim
 |succ n=>simpa only[z62,a] using h
theorem z73(g:P.underlying t=some (.slice e))(h:z62 P n t ds):∃(m:Nat) (a:List (List D)),n=m+1/\a.length<=maxLen/\(∀p∈a,z62 P m e p)/\ds=[.rsl false (z0d P e) (a.map (elD (z0r P e)))]:=by
 cases n with
 |zero=>exact h.elim
 |succ n =>
  simp only[z62,g]at h;obtain⟨a,b,c,f⟩:=h;exact⟨n,a,rfl,b,c,f⟩
theorem z45{a:Array Field}(b:P.underlying t=some (.struct a))(h:z62 P n t ds):∃m,n=m+1/\znw (z62 P m) a.toList ds:=by
 cases n with
 |zero=>exact h.elim
 |succ n=>exact⟨n,rfl,by simpa only[z62,b] using h⟩
theorem z4d{α:Type}{b:List D->Prop}{f:α->List D}{q:α->Prop}(h:∀p,b p->∃x,p=f x/\q x):∀(a:List (List D)),(∀p∈a,b p)->∃l:List α,a=l.map f/\(∀x∈l,q x)
 |[],_=>⟨[],rfl,by simp⟩
 |p::a,i=>by
  obtain⟨x,m,k⟩:=h p (i p (by simp));obtain⟨l,j,g⟩:=z4d h a (fun o c=>i o (by simp[c]));exact⟨x::l,by simp[m,j],by simp;exact⟨k,g⟩⟩
theorem zm9(o:P.underlying t=some (.slice e))(g:P.underlying e=some .string)(k:z0d P e=1)(h:z62 P n t ds):∃l:List ByteArray,ds=[z1n l]/\l.length<=maxLen/\∀s∈l,s.size<=maxLen:=by
 obtain⟨m,a,rfl,i,c,rfl⟩:=z73 o h;obtain⟨l,rfl,j⟩:=z4d (f:=fun s=>[D.str s]) (q:=fun s:ByteArray=>s.size<=maxLen) (fun p c=>z7i g c) a c;have b:z0r P e=false:=by simp[z0r,g]
 refine⟨l,?_,by simpa using i,j⟩;simp only[z1n,b,k,Y8]
 rfl
end
end Abs
namespace Facts
open _root_.Go.Proofs.Tryz
open Go.Proofs.YtppebcifiejplaaGreatDoor.Abs
@[go_sem]theorem ty3:z0r prog 3=false/\z3a prog 3=true/\z0d prog 3=1/\z2l prog 3=8/\z4t prog 3=some [D.int .i64 0]/\z5f prog 3=true:=by refine⟨?_,?_,?_,?_,?_,?_⟩<;>kernel_rfl
theorem z7p:z0r prog 3=false:=ty3.1
theorem zk2:z3a prog 3=true:=ty3.2.1
theorem zk3:z0d prog 3=1:=ty3.2.2.1
@[go_sem]theorem ty4:z0r prog 4=false/\z3a prog 4=true/\zv5 prog 4=true/\z0d prog 4=1/\z4t prog 4=some [D.bool false]:=by refine⟨?_,?_,?_,?_,?_⟩<;>kernel_rfl
theorem zk4:z0r prog 4=false:=ty4.1
@[go_sem]theorem ty5:z3a prog 5=true/\intT prog 5=some .u8/\z0d prog 5=1:=by refine⟨?_,?_,?_⟩<;>kernel_rfl
@[go_sem]theorem ty9:z0r prog 9=false/\z3a prog 9=true/\z3g prog 9=none/\arrT prog 9=none/\intT prog 9=none/\strT prog 9=true/\z0d prog 9=1/\z2l prog 9=16/\z5f prog 9=true:=by refine⟨?_,?_,?_,?_,?_,?_,?_,?_,?_⟩<;>kernel_rfl
theorem z7q:z0r prog 9=false:=ty9.1
theorem zo3:z3a prog 9=true:=ty9.2.1
theorem zbz:z0d prog 9=1:=ty9.2.2.2.2.2.2.1
@[go_sem]theorem ty23:z0r prog 23=true/\z0d prog 23=3/\z2l prog 23=24/\z4t prog 23=some [D.int .i64 0,D.int .i64 0,D.int .i64 0]/\z5f prog 23=true:=by refine⟨?_,?_,?_,?_,?_⟩<;>kernel_rfl
theorem z25:z0r prog 23=true:=ty23.1
theorem ze7:z0d prog 23=3:=ty23.2.1
@[go_sem]theorem fieldsOK23:z4l prog 23=true:=by kernel_rfl
@[go_sem]theorem fieldT23_0:z19 prog 23 0=some (0,3):=by kernel_rfl
@[go_sem]theorem fieldT23_1:z19 prog 23 1=some (1,3):=by kernel_rfl
@[go_sem]theorem fieldT23_2:z19 prog 23 2=some (2,3):=by kernel_rfl
@[go_sem]theorem ty24:z0r prog 24=false/\z3a prog 24=true/\z3g prog 24=some 122/\z0d prog 24=1:=by refine⟨?_,?_,?_,?_⟩<;>kernel_rfl
theorem zic:z0r prog 24=false:=ty24.1
@[go_sem]theorem ty25:z0r prog 25=false/\z3a prog 25=true/\z3g prog 25=some 27/\strT prog 25=false/\zxd prog 25=none/\z0d prog 25=1/\z4t prog 25=some [D.nil]:=by refine⟨?_,?_,?_,?_,?_,?_,?_⟩<;>kernel_rfl
@[go_sem]theorem ty27:z0r prog 27=true/\z0d prog 27=8/\z2l prog 27=120/\z4t prog 27=some [D.int .i64 0,D.int .i64 0,D.int .i64 0,D.int .i64 0,D.str Zg,D.nil,D.nil,D.nil]/\z5f prog 27=true:=by refine⟨?_,?_,?_,?_,?_⟩<;>kernel_rfl
theorem z0p:z0r prog 27=true:=ty27.1
theorem z35:z0d prog 27=8:=ty27.2.1
@[go_sem]theorem fieldsOK27:z4l prog 27=true:=by kernel_rfl
@[go_sem]theorem fieldT27_0:z19 prog 27 0=some (0,23):=by kernel_rfl
@[go_sem]theorem fieldT27_1:z19 prog 27 1=some (3,3):=by kernel_rfl
@[go_sem]theorem fieldT27_2:z19 prog 27 2=some (4,9):=by kernel_rfl
@[go_sem]theorem fieldT27_3:z19 prog 27 3=some (5,24):=by kernel_rfl
@[go_sem]theorem fieldT27_4:z19 prog 27 4=some (6,24):=by kernel_rfl
@[go_sem]theorem fieldT27_5:z19 prog 27 5=some (7,25):=by kernel_rfl
@[go_sem]theorem ty28:z0r prog 28=false/\z3g prog 28=some 45:=by refine⟨?_,?_⟩<;>kernel_rfl
theorem isAggT28:z0r prog 28=false:=ty28.1
@[go_sem]theorem ty31:z0r prog 31=false/\z3a prog 31=true/\z0d prog 31=1/\z2l prog 31=8/\z5f prog 31=true:=by refine⟨?_,?_,?_,?_,?_⟩<;>kernel_rfl
@[go_sem]theorem ptrT31:ptrT prog 31=true:=by kernel_rfl
@[go_sem]theorem ty34:z0r prog 34=false/\z3a prog 34=true/\z0d prog 34=1:=by refine⟨?_,?_,?_⟩<;>kernel_rfl
@[go_sem]theorem ty37:z0r prog 37=false/\z3a prog 37=true/\z3g prog 37=some 109/\z0d prog 37=1:=by refine⟨?_,?_,?_,?_⟩<;>kernel_rfl
@[go_sem]theorem ty38:z0r prog 38=false/\z3a prog 38=true/\z3g prog 38=some 9/\z0d prog 38=1:=by refine⟨?_,?_,?_,?_⟩<;>kernel_rfl
@[go_sem]theorem ty40:z0r prog 40=true/\z0d prog 40=3:=by refine⟨?_,?_⟩<;>kernel_rfl
@[go_sem]theorem fieldT40_0:z19 prog 40 0=some (0,3):=by kernel_rfl
@[go_sem]theorem fieldT40_1:z19 prog 40 1=some (1,3):=by kernel_rfl
@[go_sem]theorem fieldT40_2:z19 prog 40 2=some (2,9):=by kernel_rfl
@[go_sem]theorem ty41:z0r prog 41=false/\z3a prog 41=true/\z3g prog 41=some 43/\z0d prog 41=1:=by refine⟨?_,?_,?_,?_⟩<;>kernel_rfl
@[go_sem]theorem ty43:z0r prog 43=true/\z0d prog 43=25:=by refine⟨?_,?_⟩<;>kernel_rfl
theorem isAggT43:z0r prog 43=true:=ty43.1
theorem sizeT43:z0d prog 43=25:=ty43.2
@[go_sem]theorem fieldsOK43:z4l prog 43=true:=by kernel_rfl
@[go_sem]theorem fieldT43_0:z19 prog 43 0=some (0,3):=by kernel_rfl
@[go_sem]theorem fieldT43_1:z19 prog 43 1=some (1,37):=by kernel_rfl
@[go_sem]theorem fieldT43_2:z19 prog 43 2=some (2,37):=by kernel_rfl
@[go_sem]theorem fieldT43_3:z19 prog 43 3=some (3,3):=by kernel_rfl
@[go_sem]theorem fieldT43_4:z19 prog 43 4=some (4,3):=by kernel_rfl
@[go_sem]theorem fieldT43_5:z19 prog 43 5=some (5,27):=by kernel_rfl
@[go_sem]theorem fieldT43_6:z19 prog 43 6=some (13,38):=by kernel_rfl
@[go_sem]theorem fieldT43_7:z19 prog 43 7=some (14,38):=by kernel_rfl
@[go_sem]theorem fieldT43_8:z19 prog 43 8=some (15,9):=by kernel_rfl
@[go_sem]theorem fieldT43_9:z19 prog 43 9=some (16,9):=by kernel_rfl
@[go_sem]theorem fieldT43_10:z19 prog 43 10=some (17,40):=by kernel_rfl
@[go_sem]theorem fieldT43_11:z19 prog 43 11=some (20,3):=by kernel_rfl
@[go_sem]theorem fieldT43_12:z19 prog 43 12=some (21,3):=by kernel_rfl
@[go_sem]theorem fieldT43_13:z19 prog 43 13=some (22,3):=by kernel_rfl
@[go_sem]theorem fieldT43_14:z19 prog 43 14=some (23,9):=by kernel_rfl
@[go_sem]theorem fieldT43_15:z19 prog 43 15=some (24,41):=by kernel_rfl
@[go_sem]theorem ty45:z0r prog 45=true/\z0d prog 45=28:=by refine⟨?_,?_⟩<;>kernel_rfl
theorem isAggT45:z0r prog 45=true:=ty45.1
theorem sizeT45:z0d prog 45=28:=ty45.2
@[go_sem]theorem fieldT45_0:z19 prog 45 0=some (0,3):=by kernel_rfl
@[go_sem]theorem fieldT45_1:z19 prog 45 1=some (1,3):=by kernel_rfl
@[go_sem]theorem fieldT45_3:z19 prog 45 3=some (3,43):=by kernel_rfl
@[go_sem]theorem ty59:z0r prog 59=false/\z3a prog 59=true/\z3g prog 59=some 23/\strT prog 59=false/\zxd prog 59=none/\z0d prog 59=1/\z4t prog 59=some [D.nil]:=by refine⟨?_,?_,?_,?_,?_,?_,?_⟩<;>kernel_rfl
@[go_sem]theorem ty70:z0r prog 70=false/\z3a prog 70=true/\z0d prog 70=1/\z2l prog 70=8/\z4t prog 70=some [D.nptr]/\z5f prog 70=true:=by refine⟨?_,?_,?_,?_,?_,?_⟩<;>kernel_rfl
theorem z8r:z0d prog 70=1:=ty70.2.2.1
@[go_sem]theorem ptrT70:ptrT prog 70=true:=by kernel_rfl
@[go_sem]theorem fieldsOK73:z4l prog 73=true:=by kernel_rfl
@[go_sem]theorem fieldT73_0:z19 prog 73 0=some (0,70):=by kernel_rfl
@[go_sem]theorem zeroT73:z4t prog 73=some [D.nptr]:=by kernel_rfl
@[go_sem]theorem ty98:z0r prog 98=false/\z3a prog 98=true/\zxd prog 98=some (70,4)/\z0d prog 98=1/\z4t prog 98=some [D.nmp]:=by refine⟨?_,?_,?_,?_,?_⟩<;>kernel_rfl
@[go_sem]theorem ty109:z0r prog 109=true/\z0d prog 109=2/\z4t prog 109=some [D.int .i64 0,D.str Zg]:=by refine⟨?_,?_,?_⟩<;>kernel_rfl
theorem isAggT109:z0r prog 109=true:=ty109.1
theorem sizeT109:z0d prog 109=2:=ty109.2.1
@[go_sem]theorem fieldT109_0:z19 prog 109 0=some (0,3):=by kernel_rfl
@[go_sem]theorem fieldT109_1:z19 prog 109 1=some (1,9):=by kernel_rfl
@[go_sem]theorem ty115:z0r prog 115=false/\z3a prog 115=true/\z3g prog 115=some 70/\z0d prog 115=1:=by refine⟨?_,?_,?_,?_⟩<;>kernel_rfl
theorem zo4:z3g prog 115=some 70:=ty115.2.2.1
@[go_sem]theorem fieldsOK117:z4l prog 117=true:=by kernel_rfl
@[go_sem]theorem fieldT117_0:z19 prog 117 0=some (0,27):=by kernel_rfl
@[go_sem]theorem fieldT117_1:z19 prog 117 1=some (8,115):=by kernel_rfl
@[go_sem]theorem zeroT117:z4t prog 117=some [D.int .i64 0,D.int .i64 0,D.int .i64 0,D.int .i64 0,D.str Zg,D.nil,D.nil,D.nil,D.nil]:=by kernel_rfl
@[go_sem]theorem ty120:z0r prog 120=true/\z3a prog 120=false/\z0d prog 120=3/\z4t prog 120=some [D.int .i64 0,D.int .i64 0,D.int .i64 0]:=by refine⟨?_,?_,?_,?_⟩<;>kernel_rfl
theorem isAggT120:z0r prog 120=true:=ty120.1
theorem isOneT120:z3a prog 120=false:=ty120.2.1
theorem sizeT120:z0d prog 120=3:=ty120.2.2.1
@[go_sem]theorem fieldsOK120:z4l prog 120=true:=by kernel_rfl
@[go_sem]theorem fieldT120_0:z19 prog 120 0=some (0,3):=by kernel_rfl
@[go_sem]theorem fieldT120_1:z19 prog 120 1=some (1,3):=by kernel_rfl
@[go_sem]theorem fieldT120_2:z19 prog 120 2=some (2,3):=by kernel_rfl
@[go_sem]theorem ty122:z0r prog 122=true/\z0d prog 122=4/\z2l prog 122=40/\z4t prog 122=some [D.str Zg,D.int .i64 0,D.int .i64 0,D.int .i64 0]/\z5f prog 122=true:=by refine⟨?_,?_,?_,?_,?_⟩<;>kernel_rfl
theorem z64:z0r prog 122=true:=ty122.1
theorem z7d:z0d prog 122=4:=ty122.2.1
@[go_sem]theorem fieldsOK122:z4l prog 122=true:=by kernel_rfl
@[go_sem]theorem fieldT122_0:z19 prog 122 0=some (0,9):=by kernel_rfl
@[go_sem]theorem fieldT122_1:z19 prog 122 1=some (1,120):=by kernel_rfl
@[go_sem]theorem ty137:z0r prog 137=false/\z3a prog 137=true/\z3g prog 137=some 3/\z0d prog 137=1:=by refine⟨?_,?_,?_,?_⟩<;>kernel_rfl
@[go_sem]theorem ty141:z0r prog 141=true/\z0d prog 141=4/\z4t prog 141=some [D.int .i64 0,D.int .i64 0,D.int .i64 0,D.int .i64 0]:=by refine⟨?_,?_,?_⟩<;>kernel_rfl
@[go_sem]theorem fieldsOK141:z4l prog 141=true:=by kernel_rfl
@[go_sem]theorem fieldT141_0:z19 prog 141 0=some (0,23):=by kernel_rfl
@[go_sem]theorem fieldT141_1:z19 prog 141 1=some (3,3):=by kernel_rfl
@[go_sem]theorem ty148:z0d prog 148=4/\z4t prog 148=some [D.int .i64 0,D.int .i64 0,D.int .i64 0,D.int .i64 0]:=by refine⟨?_,?_⟩<;>kernel_rfl
@[go_sem]theorem fieldsOK148:z4l prog 148=true:=by kernel_rfl
@[go_sem]theorem fieldT148_0:z19 prog 148 0=some (0,3):=by kernel_rfl
@[go_sem]theorem fieldT148_1:z19 prog 148 1=some (1,3):=by kernel_rfl
@[go_sem]theorem fieldT148_2:z19 prog 148 2=some (2,3):=by kernel_rfl
@[go_sem]theorem fieldT148_3:z19 prog 148 3=some (3,3):=by kernel_rfl
@[go_sem]theorem ty173:z0r prog 173=false/\z3a prog 173=true/\z0d prog 173=1:=by refine⟨?_,?_,?_⟩<;>kernel_rfl
@[go_sem]theorem ty177:z0r prog 177=true/\z0d prog 177=2/\z4t prog 177=some [D.nfun,D.int .i64 0]/\z5f prog 177=true:=by refine⟨?_,?_,?_,?_⟩<;>kernel_rfl
@[go_sem]theorem fieldsOK177:z4l prog 177=true:=by kernel_rfl
@[go_sem]theorem fieldT177_0:z19 prog 177 0=some (0,173):=by kernel_rfl
@[go_sem]theorem fieldT177_1:z19 prog 177 1=some (1,34):=by kernel_rfl
@[go_sem]theorem ty185:z0r prog 185=false/\z3a prog 185=true/\z0d prog 185=1:=by refine⟨?_,?_,?_⟩<;>kernel_rfl
@[go_sem]theorem ty186:arrT prog 186=some (4,185)/\z4t prog 186=some [D.nfun,D.nfun,D.nfun,D.nfun]:=by refine⟨?_,?_⟩<;>kernel_rfl
@[go_sem]theorem elemT212:z3g prog 212=some 177:=by kernel_rfl
@[go_sem]theorem ty214:z3g prog 214=none/\arrT prog 214=some (8,137):=by refine⟨?_,?_⟩<;>kernel_rfl
@[go_sem]theorem ty232:z0r prog 232=false/\z3a prog 232=true/\z0d prog 232=1/\z4t prog 232=some [D.nfun]:=by refine⟨?_,?_,?_,?_⟩<;>kernel_rfl
theorem zrj:z0r prog 232=false:=ty232.1
@[go_sem]theorem mapT258:zxd prog 258=some (260,4):=by kernel_rfl
@[go_sem]theorem ty260:z0r prog 260=true/\z0d prog 260=2/\z4t prog 260=some [D.int .i64 0,D.str Zg]:=by refine⟨?_,?_,?_⟩<;>kernel_rfl
theorem isAggT260:z0r prog 260=true:=ty260.1
theorem sizeT260:z0d prog 260=2:=ty260.2.1
@[go_sem]theorem fieldsOK260:z4l prog 260=true:=by kernel_rfl
@[go_sem]theorem fieldT260_0:z19 prog 260 0=some (0,3):=by kernel_rfl
@[go_sem]theorem fieldT260_1:z19 prog 260 1=some (1,9):=by kernel_rfl
@[go_sem]theorem mapT261:zxd prog 261=some (23,4):=by kernel_rfl
@[go_sem]theorem ty267:z3g prog 267=some 5/\intT prog 267=none:=by refine⟨?_,?_⟩<;>kernel_rfl
@[go_sem]theorem ty280:z3g prog 280=none/\arrT prog 280=some (8,9):=by refine⟨?_,?_⟩<;>kernel_rfl
@[go_sem]theorem keyT70:keyT prog 70=false:=by kernel_rfl
@[go_sem]theorem ptrK70:ptrK prog 70=true:=by kernel_rfl
@[go_sem]theorem zeroD4:zeroD prog 4=some (D.bool false):=by kernel_rfl
@[go_sem]theorem keyT260:keyT prog 260=true:=by kernel_rfl
@[go_sem]theorem keyT23:keyT prog 23=true:=by kernel_rfl
theorem z8a{P:Program}{d:Nat}{t:TypeId}{a:Array Field}{xs b:List D}(e:P.underlying t=some (.struct a))(c:P.stoodInHeld t=false):eqD P (d+1) t (.agg xs) (.agg b)=z3o (eqD P d) P xs b a.toList:=by
 simp only[eqD,e,c,if_true]
theorem zk5{P:Program}{d:Nat}{t:TypeId}{k:IntKind}{a b:Int}(c:P.underlying t=some (.int k)):eqD P (d+1) t (.int k a) (.int k b)=some (decide (a=b)):=by
 simp only[eqD,c,if_true,Zs];by_cases h:a=b<;>simp[h]
theorem zo5{P:Program}{d:Nat}{t:TypeId}{a b:ByteArray}(c:P.underlying t=some .string):eqD P (d+1) t (.str a) (.str b)=some (decide (a=b)):=by
 simp only[eqD,c]
theorem guardT22:prog.eqGuardType prog.depth 22=false:=by kernel_rfl
attribute [go_sem] guardT22
theorem guardT23:prog.eqGuardType prog.depth 23=false:=by kernel_rfl
theorem eqT23(d:Nat)(a e:Int)(b b1:Int)(c f:Int):eqD prog (d+2) 23 (.agg [.int .i64 a,.int .i64 b,.int .i64 c]) (.agg [.int .i64 e,.int .i64 b1,.int .i64 f])=some (decide (a=e)&&decide (b=b1)&&decide (c=f)):=by
 rw[z8a Tryz.underlying23 (by kernel_rfl)];simp only[z3o,z9j,Zk,Z8,Zy,ZE,ZD,ZK,Zd,ZH,Z1,Z2,if_true,if_false,Zp,ne_eq,String.reduceEq,not_false_eq_true,decide_eq_true_eq,z7p,zk2,zk3,zk5 Tryz.underlying3]
 (repeat' split)<;>simp_all
@[go_sem]theorem eqU23(a d:Int)(b b1:Int)(c e:Int):eqD prog 8 23 (.agg [.int .i64 a,.int .i64 b,.int .i64 c]) (.agg [.int .i64 d,.int .i64 b1,.int .i64 e])=some (decide (a=d)&&decide (b=b1)&&decide (c=e)):=eqT23 6 a d b b1 c e
attribute [go_sem] guardT23
theorem guardT39:prog.eqGuardType prog.depth 39=false:=by kernel_rfl
attribute [go_sem] guardT39
theorem guardT40:prog.eqGuardType prog.depth 40=false:=by kernel_rfl
theorem eqT40(d:Nat)(a e:Int)(b b1:Int)(c f:ByteArray):eqD prog (d+2) 40 (.agg [.int .i64 a,.int .i64 b,.str c]) (.agg [.int .i64 e,.int .i64 b1,.str f])=some (decide (a=e)&&decide (b=b1)&&decide (c=f)):=by
 rw[z8a Tryz.underlying40 (by kernel_rfl)];simp only[z3o,z9j,Zk,Z8,Zy,ZE,ZD,ZK,Zd,ZH,Z1,Z2,if_true,if_false,Zp,ne_eq,String.reduceEq,not_false_eq_true,decide_eq_true_eq,z7p,zk2,zk3,zk5 Tryz.underlying3,z7q,zo3,zbz,zo5 Tryz.underlying9]
 (repeat' split)<;>simp_all
@[go_sem]theorem eqU40(a d:Int)(b b1:Int)(c e:ByteArray):eqD prog 8 40 (.agg [.int .i64 a,.int .i64 b,.str c]) (.agg [.int .i64 d,.int .i64 b1,.str e])=some (decide (a=d)&&decide (b=b1)&&decide (c=e)):=eqT40 6 a d b b1 c e
attribute [go_sem] guardT40
theorem guardT108:prog.eqGuardType prog.depth 108=false:=by kernel_rfl
attribute [go_sem] guardT108
theorem guardT109:prog.eqGuardType prog.depth 109=false:=by kernel_rfl
theorem eqT109(d:Nat)(a c:Int)(b b1:ByteArray):eqD prog (d+2) 109 (.agg [.int .i64 a,.str b]) (.agg [.int .i64 c,.str b1])=some (decide (a=c)&&decide (b=b1)):=by
 rw[z8a Tryz.underlying109 (by kernel_rfl)];simp only[z3o,z9j,Zk,Z8,Zy,ZE,ZD,ZK,Zd,ZH,Z1,Z2,if_true,if_false,Zp,ne_eq,String.reduceEq,not_false_eq_true,decide_eq_true_eq,z7p,zk2,zk3,zk5 Tryz.underlying3,z7q,zo3,zbz,zo5 Tryz.underlying9]
 (repeat' split)<;>simp_all
@[go_sem]theorem eqU109(a c:Int)(b b1:ByteArray):eqD prog 8 109 (.agg [.int .i64 a,.str b]) (.agg [.int .i64 c,.str b1])=some (decide (a=c)&&decide (b=b1)):=eqT109 6 a c b b1
attribute [go_sem] guardT109
theorem guardT119:prog.eqGuardType prog.depth 119=false:=by kernel_rfl
attribute [go_sem] guardT119
theorem guardT120:prog.eqGuardType prog.depth 120=false:=by kernel_rfl
theorem eqT120(d:Nat)(a e:Int)(b b1:Int)(c f:Int):eqD prog (d+2) 120 (.agg [.int .i64 a,.int .i64 b,.int .i64 c]) (.agg [.int .i64 e,.int .i64 b1,.int .i64 f])=some (decide (a=e)&&decide (b=b1)&&decide (c=f)):=by
 rw[z8a Tryz.underlying120 (by kernel_rfl)];simp only[z3o,z9j,Zk,Z8,Zy,ZE,ZD,ZK,Zd,ZH,Z1,Z2,if_true,if_false,Zp,ne_eq,String.reduceEq,not_false_eq_true,decide_eq_true_eq,z7p,zk2,zk3,zk5 Tryz.underlying3]
 (repeat' split)<;>simp_all
attribute [go_sem] guardT120
theorem guardT121:prog.eqGuardType prog.depth 121=false:=by kernel_rfl
attribute [go_sem] guardT121
theorem guardT122:prog.eqGuardType prog.depth 122=false:=by kernel_rfl
theorem eqT122(d:Nat)(a f:ByteArray)(b b1:Int)(c g:Int)(e h:Int):eqD prog (d+3) 122 (.agg [.str a,.int .i64 b,.int .i64 c,.int .i64 e]) (.agg [.str f,.int .i64 b1,.int .i64 g,.int .i64 h])=some (decide (a=f)&&(decide (b=b1)&&decide (c=g)&&decide (e=h))):=by
 rw[z8a Tryz.underlying122 (by kernel_rfl)];simp only[z3o,z9j,Zk,Z8,Zy,ZE,ZD,ZK,Zd,ZH,Z1,Z2,if_true,if_false,Zp,ne_eq,String.reduceEq,not_false_eq_true,decide_eq_true_eq,z7q,zo3,zbz,zo5 Tryz.underlying9,isAggT120,isOneT120,sizeT120,eqT120]
 (repeat' split)<;>simp_all
@[go_sem]theorem eqU122(a e:ByteArray)(b b1:Int)(c f:Int)(d g:Int):eqD prog 8 122 (.agg [.str a,.int .i64 b,.int .i64 c,.int .i64 d]) (.agg [.str e,.int .i64 b1,.int .i64 f,.int .i64 g])=some (decide (a=e)&&(decide (b=b1)&&decide (c=f)&&decide (d=g))):=eqT122 5 a e b b1 c f d g
attribute [go_sem] guardT122
theorem guardT140:prog.eqGuardType prog.depth 140=false:=by kernel_rfl
attribute [go_sem] guardT140
theorem guardT141:prog.eqGuardType prog.depth 141=false:=by kernel_rfl
attribute [go_sem] guardT141
theorem guardT147:prog.eqGuardType prog.depth 147=false:=by kernel_rfl
attribute [go_sem] guardT147
theorem guardT148:prog.eqGuardType prog.depth 148=false:=by kernel_rfl
attribute [go_sem] guardT148
theorem guardT259:prog.eqGuardType prog.depth 259=false:=by kernel_rfl
attribute [go_sem] guardT259
theorem guardT260:prog.eqGuardType prog.depth 260=false:=by kernel_rfl
theorem eqT260(d:Nat)(a c:Int)(b b1:ByteArray):eqD prog (d+2) 260 (.agg [.int .i64 a,.str b]) (.agg [.int .i64 c,.str b1])=some (decide (a=c)&&decide (b=b1)):=by
 rw[z8a Tryz.underlying260 (by kernel_rfl)];simp only[z3o,z9j,Zk,Z8,Zy,ZE,ZD,ZK,Zd,ZH,Z1,Z2,if_true,if_false,Zp,ne_eq,String.reduceEq,not_false_eq_true,decide_eq_true_eq,z7p,zk2,zk3,zk5 Tryz.underlying3,z7q,zo3,zbz,zo5 Tryz.underlying9]
 (repeat' split)<;>simp_all
@[go_sem]theorem eqU260(a c:Int)(b b1:ByteArray):eqD prog 8 260 (.agg [.int .i64 a,.str b]) (.agg [.int .i64 c,.str b1])=some (decide (a=c)&&decide (b=b1)):=eqT260 6 a c b b1
attribute [go_sem] guardT260
theorem z5x:prog.follows .mixedOrders=true:=by kernel_rfl

/-- A contract out of a walk,its decisions in one. -/
theorem z0u(own:List Nat){f:FuncId}{a:Func}{c:Code}(g:prog.funcs[f]?=some a)(e:a.body=some c)(d:(a.name == "runtime.NumGoroutine")=false/\z9z a.ntmps c=true)
    {ds:List D}{H:HM}{nx:Nat}{K:D->HM->Nat->Prop}(b:Nat.ble ds.length a.ntmps=true) (h:awp prog own c (retQ prog a.results.toList K) (st0 ds H nx)):AC prog f ds H nx K :=
  zqze own g e d.1 z5x d.2 (Nat.le_of_ble_eq_true b) h
/-- The same of a body that is a row of statements. -/
theorem zqzj(own:List Nat){f:FuncId}{c:Func}{a b:Code}(g:prog.funcs[f]?=some c)(e:c.body=some (.seq a b))(i:(c.name == "runtime.NumGoroutine")=false/\z9z c.ntmps (.seq a b)=true)
    {ds:List D}{H:HM}{nx:Nat}{K:D->HM->Nat->Prop}(d:Nat.ble ds.length c.ntmps=true) (h:awp prog own (.seq a b) (retQ prog c.results.toList K) (st0 ds H nx)):AC prog f ds H nx K:=z0u own g e i d h
end Facts
namespace Abs
open Go.RowKit Go.ChangeShapes Facts
def zxz(P:Program):Nat->TypeId->DataW Unit->Option (List D)
 |0,_,_=>none
 |n+1,t,d=>match P.underlying t,d with
  |some .string,.lit (.string l)=>some [.str ⟨l.toArray⟩]
  |some (.int k),.lit (.int _ i)=>some [.int k i]
  |some (.slice _),.nil=>some [.nil]
  |some (.slice e),.slice b _=>(b.mapM (zxz P n e)).map fun a=>[.rsl true (z0d P e) (a.map (elD (z0r P e)))]
  |some (.array m e),.agg b=>if P.cellsOf t=m*P.cellsOf e then (b.mapM (zxz P n e)).map List.flatten else none
  |_,_=>none
section
variable {P:Program}{W:World}{base:Nat}{spare:Nat->Bool}{held:Bool}
theorem zy0:∀(n:Nat) (m:Nat) (t:TypeId) (cs:List Value) (d:DataW Unit) (p:List MemPlace) (ds:List D),DataW.trod (fun _=>()) P W base spare held m t cs=some (d,p)->zxz P n t d=some ds ->
  relAll (z9h W) ds cs/\z7a cs/\(z0r P t=false->∃c d',cs=[c]/\ds=[d']):=by
 intro n
 induction n with
 |zero=>intro m t cs d p ds _ h;simp[zxz]at h
 |succ n ih =>
  intro m t cs d p ds L h;unfold zxz at h;split at h
  ·rename_i l z;simp only[Zs]at h;subst h;obtain⟨s,rfl,q,_⟩:=DataW.trod_string z L;simp only[ZW,DataW.lit.injEq,Lit.string.injEq]at q;obtain⟨rfl,_⟩:=q;obtain⟨y,u⟩:=z82 (W:=W) (d:=.str ⟨s.data.toList.toArray⟩) (v:=.string s) (by simp only[rel]) rfl;exact⟨y,u,fun _=>⟨_,_,rfl,rfl⟩⟩
  ·rename_i k k' i z;simp only[Zs]at h;subst h;obtain⟨i',rfl,q,_⟩:=DataW.trod_int z L;simp only[ZW,DataW.lit.injEq,Lit.int.injEq]at q;obtain⟨⟨_,rfl⟩,_⟩:=q;obtain⟨y,u⟩:=z82 (W:=W) (d:=.int k i) (v:=.int k i) (by simp[rel]) rfl;exact⟨y,u,fun _=>⟨_,_,rfl,rfl⟩⟩
  ·rename_i e z;simp only[Zs]at h;subst h;rcases DataW.trod_slice z L with ⟨rfl,_⟩|⟨_,_,_,_,_,_,_,_,q,_⟩
   ·obtain⟨y,u⟩:=z82 (W:=W) (d:=.nil) (v:=.slice none 0 0) (by simp[rel]) rfl;exact⟨y,u,fun _=>⟨_,_,rfl,rfl⟩⟩
   ·simp at q
  ·rename_i e dl sp z;rcases DataW.trod_slice z L with ⟨_,q⟩|⟨a,E,cap,B,a5,m,hm,rfl,q,_,hl,R,J,U,_⟩
   ·simp at q
   simp only[ZW,DataW.slice.injEq]at q;obtain⟨⟨rfl,_⟩,_⟩:=q;simp only[Yp]at h;obtain⟨b,g,rfl⟩:=h;have A:b.length=E:=by
    have:=mapM_some_length g
    simpa [J] using this
   have G:∀i:_root_.Fin E,∃p:List Value×List D,b[i.1]?=some p.2/\W.cells? base (a.add (i*P.cellsOf e)) (P.cellsOf e)=some p.1/\relAll (z9h W) p.2 p.1/\z7a p.1/\(z0r P e=false->∃c d,p.1=[c]/\p.2=[d]):=by
    intro i;have x:=U i i.2;rw[Ze (by omega),Yl]at x;obtain⟨F,y,u⟩:=x;have I:=mapM_some_get g i.1 (B[i.1]'(by omega)).1 (by rw[ZU,Ze (by omega)];rfl);rw[Ze (by omega)]at I;obtain⟨k1,k2,k4⟩:=ih _ e F _ _ _ u I;exact⟨(F,b[i.1]'(by omega)),Ze (by omega),y,k1,k2,k4⟩
   obtain⟨f,X⟩:=Ym G;have o:∀i,rel (z9h W) (elD (z0r P e) (f i).2) (elV (z0r P e) (f i).1)/\(elV (z0r P e) (f i).1).cells.toList=(f i).1:=by
    intro i;obtain⟨_,y,u,Q,h5⟩:=X i;cases o:z0r P e with
    |true =>
     simp only[elD,elV,if_true,Value.cells];exact⟨by simp only[rel];exact⟨_,rfl,u,Q⟩,trivial⟩
    |false =>
     obtain⟨c,d,C,H⟩:=h5 o;rw[C,H]at u;rw[C]at Q;simp only[elD,elV,C,H,Zp,if_false,Zk,Yy];simp only[relAll]at u;obtain⟨v,r,w,K,hr⟩:=u;simp only[ZN]at w;obtain⟨rfl,rfl⟩:=w;refine⟨K,?_⟩;rw[z2v (Q c (by simp))]
   have a0:z0d P e=P.cellsOf e:=rfl
   obtain⟨y,u⟩:=z82 (W:=W) (d:=.rsl true (z0d P e) (b.map (elD (z0r P e)))) (v:=.slice (some a) E cap) (by
    simp only[rel];refine .inr ⟨a,cap,Yn fun i=>elV (z0r P e) (f i).1,by simp[A],by simpa [A] using hl,R,z6u (by simp[A]) (fun i d v M w=>?_),fun i v w=>?_⟩
    ·simp only[ZU,ZT]at M w;split at w
     ·rename_i x;rw[(X ⟨i,x⟩).1]at M;simp only[Y1,Zs]at M w;subst M;subst w;exact(o ⟨i,x⟩).1
     ·cases w
    ·simp only[ZT]at w;split at w
     ·rename_i x;simp only[Zs]at w;subst w;obtain⟨_,g1,_⟩:=X ⟨i,x⟩;obtain⟨_,g2,g3⟩:=World.cells?_some g1;have g4:=(o ⟨i,x⟩).2;refine⟨by rw[<-Yr,g4,g2,a0],fun j c Y=>?_⟩;rw[g4]at Y;have Z:j<P.cellsOf e:=by rw[<-g2];exact(Yi.1 Y).1
      have:=g3 j Z;rw[Y]at this;exact this
     ·cases w) rfl
   exact⟨y,u,fun _=>⟨_,_,rfl,rfl⟩⟩
  ·rename_i m' e dl z;split at h
   ·rename_i hc;obtain⟨xs,m1,hm,q,a6,a2,a1⟩:=DataW.trod_array z L;simp only[ZW,DataW.agg.injEq]at q;obtain⟨rfl,_⟩:=q;simp only[Yp]at h;obtain⟨b,g,rfl⟩:=h;have A:b.length=m':=by
     have:=mapM_some_length g
     simpa [a2] using this
    have a4:∀k,k<=m'->relAll (z9h W) (b.take k).flatten (cs.take (k*P.cellsOf e))/\z7a (cs.take (k*P.cellsOf e)):=by
     intro k
     induction k with
     |zero=>intro _;simp only[ZK,Yz,YK];exact⟨z15,zon⟩
     |succ k a3 =>
      intro hk;obtain⟨N,O⟩:=a3 (by omega);have x:=a1 k (by omega);rw[Ze (by omega)]at x;have I:=mapM_some_get g k (xs[k]'(by omega)).1 (by rw[ZU,Ze (by omega)];rfl);rw[Ze (by omega)]at I;obtain⟨k1,k2,_⟩:=ih _ e _ _ _ _ x I;rw[Z4 (by omega),List.flatten_append,Yd,YN,List.take_add];simp only[List.flatten_cons,Yz,ZI];exact⟨z17 N k1,z32 O k2⟩
    obtain⟨N,O⟩:=a4 m' (ZL _);rw[Za (by omega),Za (by omega)]at N;rw[Za (by omega)]at O;refine⟨N,O,fun o=>?_⟩;simp only[z0r,z]at o;cases o
   ·cases h
  ·cases h
theorem zp5{g:Nat}{a:String}{t:TypeId}{cs:Array Value}{fuel:Nat}{d:DataW Unit}{p:List MemPlace}{ds:List D}(h:P.globalNamed a=some g)(l:W.var? P a=some cs)
  (f:DataW.trod (fun _=>()) P W 0 (fun _=>true) false fuel t cs.toList=some (d,p)) (k:zxz P 4 t d=some ds):rel (z9h W) (.rptr (.agg ds)) (.pointer (some ⟨g,0,none⟩)):=by
 obtain⟨b,e,_⟩:=zy0 4 fuel t cs.toList d p ds f k;simp only[rel];refine⟨_,.agg cs,rfl,⟨cs.toList,by simp,b,e⟩,fun j c i=>?_⟩;have:=World.var?_cell h l j;rw[z1i,YL];show W.cell? _=_;rw[this]
 simpa [Value.cells] using i
end
end Abs
section
open Abs Facts Go.RowKit Go.ChangeShapes Go.WideShapes Go.ChangeAt Go.WideMaps Go.WideElems
namespace Glue
def laidList:List (String×DataW Unit):=[("pandect/unit.names",Rows.laid_pandect_unit_names),("pandect/unit.below",Rows.laid_pandect_unit_below)]
theorem gNames:Tryz.prog.globalNamed "pandect/unit.names" = some 2:=by kernel_rfl
theorem gBelow:Tryz.prog.globalNamed "pandect/unit.below" = some 1:=by kernel_rfl
theorem tNames:(Tryz.prog.globals[2]?).map (·.type)=some 280:=by kernel_rfl
theorem tBelow:(Tryz.prog.globals[1]?).map (·.type)=some 214:=by kernel_rfl
theorem door_met(os:Os)(args:Array Value):laidMetH Tryz.prog laidList ((World.doorLaid Tryz.prog 400 os).forCall (fun _ _=>0) ⟨#[],args,[]⟩).memory :=
 laidMetH_of_parts3 (fuel:=8) (laidMet_of_run' 8 (by kernel_rfl) (by kernel_rfl)) (by kernel_rfl) (by kernel_rfl)
theorem globOK_laid{W:World}(h:laidMetH Tryz.prog laidList W):GlobOK W:=by
 rw[MakeChecks.laidMetH_plain _ _ _ (by kernel_rfl)]at h;obtain⟨v,⟨r,y,m,p,t,w,a,e,i,c,⟨s,z,o,q,u,x,b,f,j,d,_,_⟩,_⟩,_,_⟩:=h;obtain rfl:=Y3 (gNames.symm.trans a);obtain rfl:=Y3 (gBelow.symm.trans b);obtain rfl:=Y3 (tNames.symm.trans e);obtain rfl:=Y3 (tBelow.symm.trans f);have k:rel (z9h W) (globD 2) (.pointer (some ⟨2,0,none⟩)):=zp5 a i c (by kernel_rfl);have l:rel (z9h W) (globD 1) (.pointer (some ⟨1,0,none⟩)):=zp5 b j d (by kernel_rfl);intro g
 match g with
 |0=>first|exact k|exact l|simp only[globD,rel]
 |1=>first|exact k|exact l
 |2=>first|exact k|exact l|simp only[globD,rel]
 |n+3=>simp only[globD,rel]
end Glue
end
section
section
open Abs
namespace Tr
structure Idv where
 act:Int
 item:Int
 n:Int
instance:DecidableEq Idv:=fun a b=>decidable_of_iff (a.act=b.act/\a.item=b.item/\a.n=b.n) ⟨fun⟨h1,h2,h3⟩=>by cases a;cases b;simp_all,fun h=>by subst h;exact⟨rfl,rfl,rfl⟩⟩
def Idv.zero:Idv:=⟨0,0,0⟩
structure Wd where
 text:ByteArray
 by_:Idv
instance:DecidableEq Wd:=fun a b=>decidable_of_iff (a.text=b.text/\a.by_=b.by_) ⟨fun⟨h1,h2⟩=>by cases a;cases b;simp_all,fun h=>by subst h;exact⟨rfl,rfl⟩⟩
inductive T where
 |mk (id:Idv) (kind:Int) (label:ByteArray) (head words:List Wd) (kids:List T)
def T.id:T->Idv | .mk i _ _ _ _ _=>i
def T.kind:T->Int | .mk _ k _ _ _ _=>k
def T.label:T->ByteArray | .mk _ _ l _ _ _=>l
def T.head:T->List Wd | .mk _ _ _ h _ _=>h
def T.words:T->List Wd | .mk _ _ _ _ w _=>w
def T.kids:T->List T | .mk _ _ _ _ _ k=>k
theorem T.eta(t:T):T.mk t.id t.kind t.label t.head t.words t.kids=t:=by cases t;rfl
mutual
theorem z4a{p:T->Prop}(h:∀t,(∀k∈t.kids,p k)->p t):∀t,p t
 | .mk i k l a b c=>h (.mk i k l a b c) (ind2 h c)
theorem ind2{p:T->Prop}(h:∀t,(∀k∈t.kids,p k)->p t):∀(ks:List T),∀k∈ks,p k
 |[],k,hk=>by cases hk
 |t::a,k,hk=>by
  rcases Zr.1 hk with e|hk
  ·rw[e];exact z4a h t
  ·exact ind2 h a k hk
end
mutual
def zgc{β:Type}(f:T->List β->β):T->β
 | .mk i k l a b c=>f (.mk i k l a b c) (recL f c)
def recL{β:Type}(f:T->List β->β):List T->List β
 |[]=>[]
 |t::a=>zgc f t::recL f a
end
theorem recL_eq{β:Type}(f:T->List β->β):∀a,recL f a=a.map (zgc f)
 |[]=>rfl
 |t::b=>by simp[recL,recL_eq f b]
theorem z3r{β:Type}(f:T->List β->β)(t:T):zgc f t=f t (t.kids.map (zgc f)):=by
 cases t with
 |mk i k l a b c=>rw[zgc,recL_eq];rfl
end Tr
namespace Abs
open Tr
def z0a(i:Idv):List D:=[.int .i64 i.act,.int .i64 i.item,.int .i64 i.n]
def z0z(i:Idv):D:=.agg (z0a i)
def z2k(l:List Idv):D:=.rsl false 3 (l.map z0z)
def z1p(w:Wd):List D:=[.str w.text,.int .i64 w.by_.act,.int .i64 w.by_.item,.int .i64 w.by_.n]
def z9i(w:Wd):D:=.agg (z1p w)
def z0f(l:List Wd):D:=.rsl false 4 (l.map z9i)
def cellsF6(t:T)(ks:List (List D)):List D:=[.int .i64 t.id.act,.int .i64 t.id.item,.int .i64 t.id.n,.int .i64 t.kind,.str t.label,z0f t.head,z0f t.words,.rsl false 8 (ks.map .agg)]
def z08(t:T):List D:=zgc cellsF6 t
def z0o(t:T):D:=.agg (z08 t)
def z0l(l:List T):D:=.rsl false 8 (l.map z0o)
theorem z0n(t:T):z08 t=[.int .i64 t.id.act,.int .i64 t.id.item,.int .i64 t.id.n,.int .i64 t.kind,.str t.label,z0f t.head,z0f t.words,z0l t.kids]:=by
 unfold z08;rw[z3r,cellsF6,Y8];rfl
@[go_sem]theorem z0h(t:T):(z08 t).length=8:=by rw[z0n];rfl
@[go_sem]theorem cellsU_kind(t:T):(z08 t)[3]?=some (.int .i64 t.kind):=by rw[z0n];rfl
@[go_sem]theorem cellsU_label(t:T):(z08 t)[4]?=some (.str t.label):=by rw[z0n];rfl
@[go_sem]theorem cellsU_head(t:T):(z08 t)[5]?=some (z0f t.head):=by rw[z0n];rfl
@[go_sem]theorem cellsU_words(t:T):(z08 t)[6]?=some (z0f t.words):=by rw[z0n];rfl
@[go_sem]theorem cellsU_kids(t:T):(z08 t)[7]?=some (z0l t.kids):=by rw[z0n];rfl
@[go_sem]theorem cellsU_id(t:T):ZO 3 (z08 t)=[.int .i64 t.id.act,.int .i64 t.id.item,.int .i64 t.id.n]:=by rw[z0n];rfl
@[go_sem]theorem cellsU_take(t:T):ZO 8 (z08 t)=z08 t:=Za (by rw[z0h];exact ZL _)
@[go_sem]theorem splice_cellsU(a b c d e f g h:D)(t:T):z1d [a,b,c,d,e,f,g,h] 0 (z08 t)=z08 t:=by
 rw[z0n];rfl
@[go_sem]theorem encU_agg(t:T):z0o t=.agg (z08 t):=rfl
@[go_sem]theorem encWd_agg(w:Wd):z9i w=.agg [.str w.text,.int .i64 w.by_.act,.int .i64 w.by_.item,.int .i64 w.by_.n]:=rfl
@[go_sem]theorem encId_agg(i:Idv):z0z i=.agg [.int .i64 i.act,.int .i64 i.item,.int .i64 i.n]:=rfl
theorem z0g(l:List Wd):pureD (z0f l)=true:=by simp only[z0f,pureD];exact z0x (fun _=>rfl) l
theorem z68(l:List Idv):pureD (z2k l)=true:=by simp only[z2k,pureD];exact z0x (fun _=>rfl) l
theorem zw6{f:T->D}:∀ {l:List T},(∀t∈l,pureD (f t)=true)->pureD.pureL (l.map f)=true
 |[],_=>rfl
 |t::l,h=>by
  simp only[Zc,pureD.pureL,Zf];exact⟨h t (by simp),zw6 fun k a=>h k (Zl _ a)⟩
theorem z02:∀t,pureD (z0o t)=true:=by
 refine z4a fun t b=>?_;rw[z0o,z0n];have a:pureD (z0l t.kids)=true:=by simp only[z0l,pureD];exact zw6 b
 simp only[pureD,pureD.pureL,Zh,Y6,z0g,a]
theorem z04(t:T):pureD.pureL (z08 t)=true:=by have:=z02 t;simpa only[z0o,pureD] using this
theorem z1g(l:List T):pureD (z0l l)=true:=by simp only[z0l,pureD];exact z0x z02 l
@[go_sem]theorem zm0(l:List T):pureD.pureL (l.map z0o)=true:=z0x z02 l
@[go_sem]theorem pureL_encWd(l:List Wd):pureD.pureL (l.map z9i)=true:=z0x (fun _=>rfl) l
attribute [go_sem] z04
@[go_sem]theorem idEq(i j:Idv):(decide (i.act=j.act)&&(decide (i.item=j.item)&&decide (i.n=j.n)))=decide (i=j):=by
 obtain⟨a,b,c⟩:=i;obtain⟨d,e,f⟩:=j;rw[Ye];simp[Idv.mk.injEq]
@[go_sem]theorem idEq' (i j:Idv):(decide (i.act=j.act)&&decide (i.item=j.item)&&decide (i.n=j.n))=decide (i=j):=by rw[Bool.and_assoc,idEq]
@[go_sem]theorem idZ(i:Idv):(decide (i.act=0)&&(decide (i.item=0)&&decide (i.n=0)))=decide (i=Idv.zero):=idEq i Idv.zero
@[go_sem]theorem idZ' (i:Idv):(decide (i.act=0)&&decide (i.item=0)&&decide (i.n=0))=decide (i=Idv.zero):=idEq' i Idv.zero
@[go_sem]theorem wdEq(u v:Wd):(decide (u.text=v.text)&&decide (u.by_=v.by_))=decide (u=v):=by
 obtain⟨a,b⟩:=u;obtain⟨c,d⟩:=v;rw[Ye];simp[Wd.mk.injEq]
end Abs
end
open _root_.Go.Proofs.Tryz
section
open Abs Facts Tr
attribute [local irreducible] awp
namespace Tr
def zbf(l:List Wd):Bool:=l.all (fun w=>decide (w.text.size<=100))&&decide (l.length<=300)
def zj3(t:T):Bool:=zgc (fun t l=>decide (t.label.size<=30)&&(zbf t.head&&(zbf t.words&&l.all id))) t
theorem zp3(t:T):zj3 t=(decide (t.label.size<=30)&&(zbf t.head&&(zbf t.words&&t.kids.all zj3))):=by
 unfold zj3;rw[z3r,ZS];rfl
theorem z5q{α:Type}{f:α->Bool}{l:List α}{k:Nat}(a:k<l.length)(h:f l[k]=false):l.all f=false:=List.all_eq_false.2 ⟨_,Z5 a,by simp[h]⟩
theorem z3d{α:Type}{f:α->Bool}{l:List α}{k:Nat}(b:k<l.length)(h:(l.take k).all f=true)(a:f l[k]=true):(l.take (k+1)).all f=true:=by
 rw[Z4 b,YE,h,ZM,a];rfl
theorem z3p{α:Type}{f:α->Bool}{l:List α}{k:Nat}(a:¬k<l.length)(h:(l.take k).all f=true):l.all f=true:=by rwa [Za (by omega)]at h
end Tr
theorem zvm(l:List Wd)(i:l.length<=maxLen):PC prog 132 [z0f l] (.bool (zbf l)):=by
 unfold maxLen at i;refine z14 1 (by simp only[pureD.pureL,z0g,Z3]) rfl (zqzj [] func132 rfl (by decide+kernel) rfl ?_)
 repeat'(first|refine nxt ?_|((refine zqh fun K a=>?_);simp(disch:=omega)only[go_sem,z0f])|(refine a _ ?_;clear a K))
 (refine zqL (fun f e=>∃(k:_),f=l.length-k/\e.t 0=z0f l/\e.t 3=.int .i64 k/\(k<=l.length)/\((l.take k).all (fun w=>decide (w.text.size<=100))=true)) ?_ ?_);rintro f e ⟨k,rfl,g,h,j,b⟩;rotate_left
 ·(refine⟨_,0,rfl,?_⟩);simp(disch:=omega)only[go_sem,Z0,true_and,Z9,z0f]
  try simp
 repeat'(first|refine nxt ?_|((first|refine zqh fun K a=>?_|refine zqr fun K a=>?_);simp(disch:=omega)only[go_sem,Z0,↓reduceIte,reduceCtorEq,Z1,g,h,z0f])|((first|refine zqd _ rfl (fun c=>?_) (fun c=>?_)|refine zqm _ rfl (fun c=>?_) (fun c=>?_))<;>(((try simp only[z05]at c);try omega)))|refine zqz ?_|refine zqU ?_|(refine a _ ?_;clear a K))
 ·have d:k<l.length:=by omega
  refine z01 ?_;have:l.all (fun w=>decide (w.text.size<=100))=false:=z5q d (decide_eq_false (by omega));simp only[zbf,this];rfl
 ·have d:k<l.length:=by omega
  (refine⟨_,?_,k+1,rfl,?_⟩);rotate_left;simp(disch:=omega)only[go_sem,Z0,g,h,true_and,Z7,Z6];rotate_left
  ·omega
  ·exact⟨by omega,z3d d b (decide_eq_true (by omega))⟩
 ·have:=z3p (by omega) b;refine z01 ?_;simp only[zbf,this,Zh]
  congr 1;simp only[eq_iff_iff];omega
namespace Tr
def fitB(t:T):Bool:=zgc (fun t l=>decide (t.head.length<=maxLen)&&(decide (t.words.length<=maxLen)&&(decide (t.kids.length<=maxLen)&&l.all id))) t
theorem zbg(t:T):fitB t=true ↔ t.head.length<=maxLen/\t.words.length<=maxLen/\t.kids.length<=maxLen/\∀k∈t.kids,fitB k=true:=by
 unfold fitB;rw[z3r];simp only[ZS,Zf,decide_eq_true_iff,ZB]
 rfl
def z4y(deep most:Int):List (Int->Int->Int)->Int->Int
 |[],n=>n
 |f::a,n=>if n<=most then z4y deep most a (n+f (deep+1) (most-n)) else n
def z5i(t:T):Int->Int->Int:=zgc (fun _ l a b=>if 20<a then b+1 else z4y a b l 1) t
theorem zna(t:T)(deep most:Int):z5i t deep most=if 20<deep then most+1 else z4y deep most (t.kids.map z5i) 1:=by
 unfold z5i;rw[z3r]
theorem zls(deep most:Int)(f:Int->Int->Int):∀(l:List (Int->Int->Int)) (n:Int),z4y deep most l n<=most->z4y deep most (l++[f]) n=z4y deep most l n+f (deep+1) (most-z4y deep most l n)
 |[],n,h=>by simp only[z4y]at h;simp only[Y4,z4y];rw[if_pos h]
 |g::l,n,h=>by
  simp only[ZX,z4y]at h⊢;split at h
  ·rename_i a;simp only[a,if_true];exact zls deep most f l _ h
  ·omega
theorem zlt(deep most:Int):∀(l r:List (Int->Int->Int)) (n:Int),most<z4y deep most l n->z4y deep most (l++r) n=z4y deep most l n
 |[],r,n,h=>by
  simp only[z4y]at h;simp only[Y4];cases r with
  |nil=>rfl
  |cons f r=>simp only[z4y];rw[if_neg (by omega)]
 |g::l,r,n,h=>by
  simp only[ZX,z4y]at h⊢;split
  ·rename_i a;simp only[a,if_true]at h;exact zlt deep most l r _ h
  ·rfl
theorem zbh{deep most:Int}:∀(l:List T),(∀k∈l,∀(deep most:Int),0<=most->1<=z5i k deep most/\z5i k deep most<=most+1)->∀n:Int,1<=n->n<=most+1->1<=z4y deep most (l.map z5i) n/\z4y deep most (l.map z5i) n<=most+1
 |[],_,n,a,b=>⟨a,b⟩
 |k::l,c,n,a,b=>by
  simp only[Zc,z4y];split
  ·have:=c k (by simp) (deep+1) (most-n) (by omega);exact zbh l (fun q d=>c q (Zl _ d)) _ (by omega) (by omega)
  ·exact⟨a,b⟩
theorem z96:∀(t:T) (deep most:Int),0<=most->1<=z5i t deep most/\z5i t deep most<=most+1:=by
 refine z4a fun t a deep most b=>?_;rw[zna];split
 ·omega
 ·exact zbh t.kids a 1 (by omega) (by omega)
end Tr
theorem pc_words:∀t:T,fitB t=true->PC prog 68 [z0o t] (.bool (zj3 t)):=by
 refine z4a fun t q e=>?_;obtain⟨r,s,y,z⟩:=(zbg t).1 e;have q:=fun k u=>q k u (z k u);have o:=zvm t.head r;have p:=zvm t.words s;unfold maxLen at r s y;rw[zp3];refine z14 1 (by simp only[pureD.pureL,z02,Z3]) rfl (zqzj [] func68 rfl (by decide+kernel) rfl ?_)
 repeat'(first|refine nxt ?_|((first|refine zqh fun K d=>?_|refine zqs (o) ?_|refine zqs (p) ?_);simp(disch:=omega)only[go_sem,Z0,↓reduceIte,reduceCtorEq,Z1])|(refine zqd _ rfl ?_ ?_<;>intro c<;>(first|(cases c;done)|((try simp only[z05]at c);try omega)))|refine zqU ?_|(refine d _ ?_;clear d K)|(refine zqf (fun m=>?_) (fun m=>?_)<;>(have a:=m;try simp only[z05]at a)<;>((first|have b:(_:Bool)=_:=a|have b:=eq_false a|have b:=eq_true a);simp(disch:=omega)only[go_sem,Z0,↓reduceIte,reduceCtorEq,Z1,b];clear m b;try omega)))
 rotate_right
 all_goals first|exact z01 (by simp_all;try omega)|skip
 have f:decide (t.label.size<=30)=true:=decide_eq_true (by omega);rw[f,‹zbf t.head=true›,‹zbf t.words=true›,Zh,Zh,Zh];(refine zqL (fun v l=>∃(i:_),v=t.kids.length-i/\l.t 1=.ptr 0 0/\l.t 3=.int .i64 i/\l.H 0=some (.box 27 (z08 t))/\(i<=t.kids.length)/\((t.kids.take i).all zj3=true)/\(1<=l.nx)) ?_ ?_);rintro v l ⟨i,rfl,w,x,g,A,j,B⟩;rotate_left
 ·(refine⟨_,0,rfl,?_⟩);simp(disch:=omega)only[go_sem,Z0,Z2,true_and,and_true,Z9]
  try simp
 have n:=fun(h:i<t.kids.length)=>q t.kids[i] (Z5 h)
 repeat'(first|refine nxt ?_|((first|refine zqh fun K d=>?_|refine zqr fun K d=>?_|refine zqs (n (by omega)) ?_);simp(disch:=omega)only[go_sem,Z0,↓reduceIte,reduceCtorEq,Z1,w,x,g,z0l])|((first|refine zqd _ rfl (fun c=>?_) (fun c=>?_)|refine zqm _ rfl (fun c=>?_) (fun c=>?_))<;>(((try simp only[z05]at c);try omega)))|refine zqz ?_|refine zqU ?_|(refine d _ ?_;clear d K))
 ·exact z01 (z5q (k:=i) (by omega) (by assumption)).symm
 ·(refine⟨_,?_,i+1,rfl,?_⟩);rotate_left;simp(disch:=omega)only[go_sem,Z0,w,x,g,true_and,Z7,Z6];rotate_left
  ·omega
  ·exact⟨by omega,z3d (by omega) j (by assumption),by omega⟩
 ·exact z01 (z3p (by omega) j).symm
theorem pc_size:∀t:T,fitB t=true->∀b a:Int,0<=b->b<=21->0<=a->a<=1000->PC prog 67 [z0o t,.int .i64 b,.int .i64 a] (.int .i64 (z5i t b a)):=by
 refine z4a fun t M m b a F G s I=>?_;obtain⟨A,B,C,E⟩:=(zbg t).1 m;unfold maxLen at A B C;have l:=z96 t b a s;rw[zna]at l⊢;refine z14 1 (by simp only[pureD.pureL,z02,pureD,Z3]) rfl (zqzj [] func67 rfl (by decide+kernel) rfl ?_)
 repeat'(first|refine nxt ?_|((refine zqh fun K j=>?_);simp(disch:=omega)only[go_sem,Z0,↓reduceIte])|(refine zqd _ rfl ?_ ?_<;>intro o<;>(((try simp only[z05]at o);try omega)))|refine zqU ?_|(refine j _ ?_;clear j K))
 ·refine z1o ?_;rw[if_pos (by assumption)]
 ·rw[if_neg (by assumption)]at l⊢;(refine zqL (fun w c=>∃(i:_),w=t.kids.length-i/\c.t 1=.int .i64 b/\c.t 2=.int .i64 a/\c.t 3=.ptr 0 0/\c.t 7=.int .i64 (z4y b a ((t.kids.take i).map z5i) 1)/\c.t 8=.int .i64 i/\c.H 0=some (.box 27 (z08 t))/\(i<=t.kids.length)/\(1<=c.nx)) ?_ ?_);rintro w c ⟨i,rfl,x,u,y,v,z,n,N,O⟩;rotate_left
  ·(refine⟨_,0,rfl,?_⟩);simp(disch:=omega)only[go_sem,Z0,Z2,true_and,and_true,and_self,Z9,Zj]
   try simp[z4y]
  have p:=fun(h:i<t.kids.length)=>M t.kids[i] (Z5 h) (E _ (Z5 h)) (b+1) (a-z4y b a ((t.kids.take i).map z5i) 1);have L:=zbh (deep:=b) (most:=a) (t.kids.take i) (fun k _=>z96 k) 1 (by omega) (by omega);have f:∀h:i<t.kids.length,z4y b a ((t.kids.take i).map z5i) 1<=a->z4y b a ((t.kids.take (i+1)).map z5i) 1=z4y b a ((t.kids.take i).map z5i) 1+z5i t.kids[i] (b+1) (a-z4y b a ((t.kids.take i).map z5i) 1):=fun h r=>by
   rw[Z4 h,Zm,Zc,Zj,zls _ _ _ _ _ r]
  have q:=fun(h:i<t.kids.length)=>z96 t.kids[i] (b+1) (a-z4y b a ((t.kids.take i).map z5i) 1);have g:a<z4y b a ((t.kids.take i).map z5i) 1->z4y b a (t.kids.map z5i) 1=z4y b a ((t.kids.take i).map z5i) 1:=fun h=>by
   have:=zlt b a ((t.kids.take i).map z5i) ((t.kids.drop i).map z5i) 1 h;rwa [<-Zm,ZJ]at this
  repeat'(first|refine nxt ?_|((first|refine zqh fun K j=>?_|refine zqr fun K j=>?_|refine zqs (p (by omega) (by omega) (by omega) (by omega) (by omega)) ?_);simp(disch:=omega)only[go_sem,Z0,↓reduceIte,reduceCtorEq,Z1,x,u,y,v,z,n,z0l])|(refine zqd _ rfl ?_ ?_<;>intro o<;>(first|(cases o;done)|((try simp only[z05]at o);try omega)))|refine zqz ?_|refine zqU ?_|(refine j _ ?_;clear j K)|(refine zqf (fun l=>?_) (fun l=>?_)<;>(have d:=l;try simp only[z05]at d)<;>((first|have e:=eq_false d|have e:=eq_true d);simp(disch:=omega)only[go_sem,Z0,↓reduceIte,e,u,v];clear l e;try omega)))
  ·have P:=q (by omega) (by omega);have J:=f (by omega) (by assumption);(refine⟨_,?_,i+1,rfl,?_⟩);rotate_left;simp(disch:=omega)only[go_sem,Z0,x,u,y,v,z,n,true_and,Z7,Z6];rotate_left
   ·omega
   ·rw[J];exact⟨rfl,by omega,by omega⟩
  ·exact z1o (g (by omega)).symm
  ·have:t.kids.take i=t.kids:=Za (by omega);rw[this];exact z1o rfl
namespace Tr
def fewB(t:T)(most:Int):Bool:=decide (z5i t 0 most<=most)&&zj3 t
end Tr
theorem pc_Few(t:T)(a:fitB t=true)(most:Int)(e:0<=most)(f:most<=1000):PC prog 22 [z0o t,.int .i64 most] (.bool (fewB t most)):=by
 refine z14 1 (by simp only[pureD.pureL,z02,pureD,Z3]) rfl (zqzj [] func22 rfl (by decide+kernel) rfl ?_);have h:=pc_size t a 0 most (by omega) (by omega) e f;have i:=pc_words t a
 repeat'(first|((first|refine zqh fun K g=>?_|refine zqs (h) ?_|refine zqs (i) ?_);simp(disch:=omega)only[go_sem,Z0,↓reduceIte,Z1,Z2])|refine nxt ?_|refine zqU ?_|(refine g _ ?_;clear g K)|(refine zqf (fun d=>?_) (fun d=>?_)<;>(have b:=d;try simp only[z05]at b)<;>((first|have c:=eq_false b|have c:=eq_true b);simp(disch:=omega)only[go_sem,Z0,↓reduceIte,Z1,Z2,c];clear d c;try omega)))
 ·exact z01 (by unfold fewB;rw[decide_eq_true (by assumption),Zh])
 ·exact z01 (by unfold fewB;rw[decide_eq_false (by assumption),Zw])
namespace Tr
def bl(s:ByteArray):List UInt8:=s.data.toList
theorem z22(s:ByteArray):(bl s).length=s.size:=rfl
def dig(b:UInt8):Bool:=decide (48<=b.toNat/\b.toNat<=57)
def cap(b:UInt8):Bool:=decide (65<=b.toNat/\b.toNat<=90)
def ink(b:UInt8):Bool:=decide (33<=b.toNat/\b.toNat<=126)
def zba(s:ByteArray):Nat:=((bl s).takeWhile dig).length
def z3x(s:ByteArray):Bool:=decide (1<=zba s/\zba s<=4/\((bl s).headD 0).toNat≠48/\s.size-zba s<=3)&&((bl s).drop (zba s)).all cap
def z5t(s:ByteArray):Bool:=decide (1<=s.size/\s.size<=24)&&(bl s).all ink
def zee(l:List ByteArray):Bool:=decide (l.length<=256)&&l.all z5t
def zdc(l:List Wd):Bool:=decide (l.length<=256)&&l.all fun w=>z5t w.text
theorem zn2(l:List Wd):zdc l=(decide (l.length<=256)&&zee (l.map (·.text))):=by
 unfold zdc zee;rw[Yf,ZS];cases decide (l.length<=256)<;>simp[Function.comp_def]
theorem z7x{α:Type}{p:α->Bool}:∀ {l:List α}{k:Nat}(_:k<=l.length),(∀j,(e:j<k)->p (l[j]'(by omega))=true)->(∀h:k<l.length,p l[k]=false)->(l.takeWhile p).length=k
 |[],k,a,_,_=>by simp at a;simp[a]
 |x::l,0,_,_,b=>by
  have:=b (by simp);simp only[Zt]at this;simp[this]
 |x::l,k+1,a,d,b=>by
  have c:=d 0 (by omega);simp only[Zt]at c;rw[Ys,if_pos c,Zd];have:=z7x (p:=p) (l:=l) (k:=k) (by simpa using a) (fun j e=>by simpa using d (j+1) (by omega)) (fun h=>b (by simpa using h));rw[this]
theorem zfz(s:ByteArray):zba s<=s.size:=by
 unfold zba;rw[<-z22];exact(List.takeWhile_prefix _).length_le
end Tr
theorem zt0{s:ByteArray}{i:Nat}(h:i<s.size):s[i]?=some ((bl s)[i]'h):=getElem?_pos s i h
theorem bhead{s:ByteArray}(h:0<s.size):(bl s)[0]'h=(bl s).headD 0:=by
 have:∀(l:List UInt8) (h:0<l.length),l[0]'h=l.headD 0:=fun l h=>by cases l with
  |nil=>exact absurd h (by simp)
  |cons a l=>rfl
 exact this _ _
theorem pc_digits(s:ByteArray)(u:s.size<=maxLen):PC prog 160 [.str s] (.int .i64 (zba s)):=by
 unfold maxLen at u;refine z14 1 (by simp only[pureD.pureL,pureD,Z3]) rfl (zqzj [] func160 rfl (by decide+kernel) rfl ?_)
 repeat'(first|((refine zqh fun K c=>?_);simp(disch:=omega)only[go_sem])|refine nxt ?_|(refine c _ ?_;clear c K))
 have r:=z22 s;(refine zqL (fun q n=>∃(k:_),q=s.size-k/\n.t 0=.str s/\n.t 3=.int .i64 k/\(k<=s.size)/\(∀j,(f:j<k)->(h:j<(bl s).length)->dig (bl s)[j]=true)) ?_ ?_);rintro q n ⟨k,rfl,i,m,v,d⟩;rotate_left
 ·(refine⟨_,0,rfl,?_⟩);simp(disch:=omega)only[go_sem,Z0,true_and,Z9];exact fun j f=>by omega
 repeat'(first|refine nxt ?_|((first|refine zqh fun K c=>?_|refine zqr fun K c=>?_);simp(disch:=omega)only[go_sem,Z0,↓reduceIte,i,m])|(refine zqd _ rfl ?_ ?_<;>intro o<;>(first|(cases o;done)|((try simp only[z05]at o);try omega)))|refine zqz ?_|refine zqU ?_|(refine c _ ?_;clear c K)|(refine zqf (fun g=>?_) (fun g=>?_)<;>(have a:=g;try simp only[z05]at a)<;>((first|have b:=eq_false a|have b:=eq_true a);simp(disch:=omega)only[go_sem,Z0,↓reduceIte,b,i,m,zt0];clear g b;try omega)))
 ·(refine⟨_,?_,k+1,rfl,?_⟩);rotate_left;simp(disch:=omega)only[go_sem,Z0,i,m,true_and,Z7,Z6];rotate_left
  ·omega
  ·refine⟨by omega,fun j f h=>?_⟩
   by_cases e:j=k
   ·subst e;unfold dig;exact decide_eq_true (by omega)
   ·exact d j (by omega) h
 all_goals
  refine z1o ?_
  have:=z7x (p:=dig) (l:=bl s) (k:=k) (by omega) (fun j f=>d j f (by omega)) (fun h=>by
   unfold dig;exact decide_eq_false (by omega))
  unfold zba;rw[this]
theorem pc_Word(s:ByteArray)(m:s.size<=maxLen):PC prog 249 [.str s] (.bool (z5t s)):=by
 unfold maxLen at m;refine z14 1 (by simp only[pureD.pureL,pureD,Z3]) rfl (zqzj [] func249 rfl (by decide+kernel) rfl ?_)
 repeat'(first|refine nxt ?_|((refine zqh fun K e=>?_);simp(disch:=omega)only[go_sem,Z0,↓reduceIte])|(refine zqd _ rfl ?_ ?_<;>intro c<;>(first|(cases c;done)|((try simp only[z05]at c);try omega)))|refine zqU ?_|(refine e _ ?_;clear e K)|(refine zqf (fun d=>?_) (fun d=>?_)<;>(have a:=d;try simp only[z05]at a)<;>((first|have b:=eq_false a|have b:=eq_true a);simp(disch:=omega)only[go_sem,Z0,↓reduceIte,b];clear d b;try omega)))
 ·exact z01 (by unfold z5t;rw[decide_eq_false (by omega)];rfl)
 ·rw[show z5t s=(bl s).all ink from by unfold z5t;rw[decide_eq_true (by omega)];rfl];(refine zqL (fun j i=>∃(k:_),j=s.size-k/\i.t 0=.str s/\i.t 3=.int .i64 k/\(k<=s.size)/\(((bl s).take k).all ink=true)) ?_ ?_);rintro j i ⟨k,rfl,g,h,n,f⟩;rotate_left
  ·(refine⟨_,0,rfl,?_⟩);simp(disch:=omega)only[go_sem,Z0,true_and,Z9];simp
  have l:=z22 s
  repeat'(first|refine nxt ?_|((first|refine zqh fun K e=>?_|refine zqr fun K e=>?_);simp(disch:=omega)only[go_sem,Z0,↓reduceIte,g,h,zt0])|((first|refine zqd _ rfl (fun c=>?_) (fun c=>?_)|refine zqm _ rfl (fun c=>?_) (fun c=>?_))<;>(first|(cases c;done)|((try simp only[z05]at c);try omega)))|refine zqz ?_|refine zqU ?_|(refine e _ ?_;clear e K)|(refine zqf (fun d=>?_) (fun d=>?_)<;>(have a:=d;try simp only[z05]at a)<;>((first|have b:=eq_false a|have b:=eq_true a);simp(disch:=omega)only[go_sem,Z0,↓reduceIte,b,g,h,zt0];clear d b;try omega)))
  ·exact z01 (z5q (k:=k) (by omega) (by unfold ink;exact decide_eq_false (by omega))).symm
  ·(refine⟨_,?_,k+1,rfl,?_⟩);rotate_left;simp(disch:=omega)only[go_sem,Z0,g,h,true_and,Z7,Z6];rotate_left
   ·omega
   ·exact⟨by omega,z3d (by omega) f (by unfold ink;exact decide_eq_true (by omega))⟩
  ·exact z01 (z5q (k:=k) (by omega) (by unfold ink;exact decide_eq_false (by omega))).symm
  ·exact z01 (z3p (by omega) f).symm
 ·exact z01 (by unfold z5t;rw[decide_eq_false (by omega)];rfl)
theorem pc_Seq(l:List ByteArray)(j:l.length<=maxLen)(m:∀s∈l,s.size<=maxLen):PC prog 159 [z1n l] (.bool (zee l)):=by
 unfold maxLen at j;refine z14 1 (by simp only[pureD.pureL,z1q,Z3]) rfl (zqzj [] func159 rfl (by decide+kernel) rfl ?_);have n:=fun(i:Nat) (h:i<l.length)=>pc_Word l[i] (m _ (Z5 h))
 repeat'(first|refine nxt ?_|((refine zqh fun K a=>?_);simp(disch:=omega)only[go_sem,Z0,↓reduceIte,z1n])|(refine zqd _ rfl ?_ ?_<;>intro b<;>(((try simp only[z05]at b);try omega)))|refine zqU ?_|(refine a _ ?_;clear a K))
 ·exact z01 (by unfold zee;rw[decide_eq_false (by omega)];rfl)
 ·rw[show zee l=l.all z5t from by unfold zee;rw[decide_eq_true (by omega)];rfl];(refine zqL (fun e d=>∃(k:_),e=l.length-k/\d.t 0=z1n l/\d.t 3=.int .i64 k/\(k<=l.length)/\((l.take k).all z5t=true)) ?_ ?_);rintro e d ⟨k,rfl,f,g,o,c⟩;rotate_left
  ·(refine⟨_,0,rfl,?_⟩);simp(disch:=omega)only[go_sem,Z0,true_and,Z9,z1n];simp
  repeat'(first|refine nxt ?_|((first|refine zqh fun K a=>?_|refine zqr fun K a=>?_|refine zqs (n k (by omega)) ?_);simp(disch:=omega)only[go_sem,Z0,↓reduceIte,reduceCtorEq,Z1,f,g,z1n])|((first|refine zqd _ rfl (fun b=>?_) (fun b=>?_)|refine zqm _ rfl (fun b=>?_) (fun b=>?_))<;>(((try simp only[z05]at b);try omega)))|refine zqz ?_|refine zqU ?_|(refine a _ ?_;clear a K))
  ·exact z01 (z5q (k:=k) (by omega) (by assumption)).symm
  ·(refine⟨_,?_,k+1,rfl,?_⟩);rotate_left;simp(disch:=omega)only[go_sem,Z0,f,g,true_and,Z7,Z6];rotate_left
   ·omega
   ·exact⟨by omega,z3d (by omega) c (by assumption)⟩
  ·exact z01 (z3p (by omega) c).symm
theorem pc_Texts(l:List Wd)(p:l.length<=1000000):PC prog 294 [z0f l] (z1n (l.map (·.text))):=by
 refine z14 2 (by simp only[pureD.pureL,z0g,Z3]) (z1q _) (zqzj [5] func294 rfl (by decide+kernel) rfl ?_)
 repeat'(first|refine nxt ?_|((refine zqh fun K c=>?_);simp(disch:=omega)only[go_sem,Z0,↓reduceIte,reduceCtorEq,z0f])|(refine c _ ?_;clear c K))
 (refine zqL (fun e d=>∃(k:_),e=l.length-k/\d.t 0=z0f l/\d.t 3=.osl 0 k/\d.t 4=.int .i64 k/\d.H 0=some (.row 9 k (((l.take k).map (·.text)).map .str))/\(k<=l.length)) ?_ ?_);rintro e d ⟨k,rfl,f,g,i,a,o⟩;rotate_left
 ·(refine⟨_,0,rfl,?_⟩);simp(disch:=omega)only[go_sem,Z0,and_self,Z9,Zj,z0f]
  try simp
 have b:∀h:k<l.length,l.take (k+1)=l.take k++[l[k]]:=fun h=>Z4 h
 repeat'(first|refine nxt ?_|((first|refine zqh fun K c=>?_|refine zqr fun K c=>?_);simp(disch:=omega)only[go_sem,Z0,↓reduceIte,reduceCtorEq,Z1,Z2,ZP,f,g,i,a,z0f])|(refine zqd _ rfl ?_ ?_<;>intro m<;>(((try simp only[z05]at m);try omega)))|refine zqz ?_|refine zqU ?_|(refine c _ ?_;clear c K))
 ·have b:=b (by omega);(refine⟨_,?_,k+1,rfl,?_⟩);rotate_left;simp(disch:=omega)only[go_sem,Z0,f,g,i,a,true_and,Z7,Z6,Zm,Zc,Zj,b];rotate_left
  ·omega
  ·omega
 ·have n:k=l.length:=by omega
  subst n;rw[Zn]at a;have j:l.length=((l.map (·.text))).length:=by simp
  rw[j]at a⊢;exact z3j (z8j 0 a z7q zbz (by simp) (zi5 _))
theorem pc_rowR(l:List Wd)(h:l.length<=1000000)(i:∀w∈l,w.text.size<=maxLen):PC prog 237 [z0f l] (.bool (zdc l)):=by
 refine z14 1 (by simp only[pureD.pureL,z0g,Z3]) rfl (zqzj [] func237 rfl (by decide+kernel) rfl ?_);have e:=pc_Texts l h;have f:=pc_Seq (l.map (·.text)) (by unfold maxLen;simp;omega) (fun s d=>by obtain⟨w,j,rfl⟩:=Zz.1 d;exact i w j);rw[zn2];simp only[z1n,Y8]at e f
 repeat'(first|((first|refine zqh fun K g=>?_|refine zqs (e) ?_|refine zqs (f) ?_);simp(disch:=omega)only[go_sem,Z0,↓reduceIte,z0f])|refine nxt ?_|refine zqU ?_|(refine g _ ?_;clear g K)|(refine zqf (fun c=>?_) (fun c=>?_)<;>(have a:=c;try simp only[z05]at a)<;>((first|have b:=eq_false a|have b:=eq_true a);simp(disch:=omega)only[go_sem,Z0,↓reduceIte,b];clear c b;try omega)))
 ·exact z01 (by rw[decide_eq_true (by omega)];rfl)
 ·exact z01 (by rw[decide_eq_false (by omega)];rfl)
theorem zhy(s:ByteArray)(n:s.size<=maxLen):PC prog 83 [.str s] (.bool (z3x s)):=by
 unfold maxLen at n;refine z14 1 (by simp only[pureD.pureL,pureD,Z3]) rfl (zqzj [] func83 rfl (by decide+kernel) rfl ?_);have p:=pc_digits s n;have y:=zfz s;have q:=z22 s;have u:YA 0=0:=rfl;have f:∀h:0<s.size,(bl s)[0].toNat=((bl s).headD 0).toNat:=fun h=>congrArg UInt8.toNat (bhead h)
 repeat'(first|refine nxt ?_|((first|refine zqh fun K e=>?_|refine zqs (p) ?_);simp(disch:=omega)only[go_sem,Z0,↓reduceIte])|(refine zqd _ rfl ?_ ?_<;>intro c<;>(first|(cases c;done)|((try simp only[z05]at c);try omega)))|refine zqU ?_|(refine e _ ?_;clear e K)|(refine zqf (fun d=>?_) (fun d=>?_)<;>(have a:=d;try simp only[z05]at a)<;>((first|have b:=eq_false a|have b:=eq_true a);simp(disch:=omega)only[go_sem,Z0,↓reduceIte,Zu,b,zt0,u];clear d b;try omega)))
 ·exact z01 (by unfold z3x;rw[decide_eq_false (by omega)];rfl)
 ·have r:=f (by omega);rw[show z3x s=((bl s).drop (zba s)).all cap from by unfold z3x;rw[decide_eq_true (by omega)];rfl];(refine zqL (fun o m=>∃(k:_),o=s.size-k/\m.t 0=.str s/\m.t 4=.int .i64 k/\(zba s<=k)/\(k<=s.size)/\((((bl s).drop (zba s)).take (k-zba s)).all cap=true)) ?_ ?_);rintro o m ⟨k,rfl,j,l,v,w,g⟩;rotate_left
  ·(refine⟨_,zba s,rfl,?_⟩);simp(disch:=omega)only[go_sem,Z0,true_and];exact⟨ZL _,by omega,by rw[Nat.sub_self];rfl⟩
  have i:∀h:k<s.size,((bl s).drop (zba s))[k-zba s]'(by rw[Yb,z22];omega)=(bl s)[k]'h:=fun h=>by
   rw[List.getElem_drop];congr 1;omega
  have x:((bl s).drop (zba s)).length=s.size-zba s:=by rw[Yb,z22]
  repeat'(first|refine nxt ?_|((first|refine zqh fun K e=>?_|refine zqr fun K e=>?_);simp(disch:=omega)only[go_sem,Z0,↓reduceIte,j,l,zt0])|((first|refine zqd _ rfl (fun c=>?_) (fun c=>?_)|refine zqm _ rfl (fun c=>?_) (fun c=>?_))<;>(first|(cases c;done)|((try simp only[z05]at c);try omega)))|refine zqz ?_|refine zqU ?_|(refine e _ ?_;clear e K)|(refine zqf (fun d=>?_) (fun d=>?_)<;>(have a:=d;try simp only[z05]at a)<;>((first|have b:=eq_false a|have b:=eq_true a);simp(disch:=omega)only[go_sem,Z0,↓reduceIte,b,j,l,zt0];clear d b;try omega)))
  ·exact z01 (z5q (k:=k-zba s) (by omega) (by rw[i (by omega)];unfold cap;exact decide_eq_false (by omega))).symm
  ·(refine⟨_,?_,k+1,rfl,?_⟩);rotate_left;simp(disch:=omega)only[go_sem,Z0,j,l,true_and,Z7,Z6];rotate_left
   ·omega
   ·refine⟨by omega,by omega,?_⟩;rw[show k+1-zba s=k-zba s+1 from by omega];exact z3d (by omega) g (by rw[i (by omega)];unfold cap;exact decide_eq_true (by omega))
  ·exact z01 (z5q (k:=k-zba s) (by omega) (by rw[i (by omega)];unfold cap;exact decide_eq_false (by omega))).symm
  ·exact z01 (z3p (k:=k-zba s) (by omega) g).symm
 ·have r:=f (by omega);exact z01 (by unfold z3x;rw[decide_eq_false (by omega)];rfl)
 ·exact z01 (by unfold z3x;rw[decide_eq_false (by omega)];rfl)
 ·exact z01 (by unfold z3x;rw[decide_eq_false (by omega)];rfl)
end
section
open Abs Facts Tr
attribute [local irreducible] awp
namespace Tr
def z0c(t:T):List T:=zgc (fun t l=>t::l.flatten) t
theorem z1l(t:T):z0c t=t::t.kids.flatMap z0c:=by
 unfold z0c;rw[z3r,List.flatMap]
theorem z1t(t:T):t∈z0c t:=by rw[z1l];exact List.mem_cons_self
theorem z31{t k x:T}(a:k∈t.kids)(b:x∈z0c k):x∈z0c t:=by
 rw[z1l];exact Zl _ (ZY.2 ⟨k,a,b⟩)
variable {σ:Type}
def zdj(step:T->σ->Bool×σ):List T->σ->Bool×σ
 |[],s=>(true,s)
 |x::l,s=>if (step x s).1=true then zdj step l (step x s).2 else (false,(step x s).2)
theorem ze6(step:T->σ->Bool×σ):∀(a b:List T) (s:σ),zdj step (a++b) s=if (zdj step a s).1=true then zdj step b (zdj step a s).2 else zdj step a s
 |[],b,s=>by simp[zdj]
 |x::a,b,s=>by
  simp only[ZX,zdj];split
  ·exact ze6 step a b _
  ·simp
theorem runS_stop(step:T->σ->Bool×σ){a b:List T}{s:σ}(h:(zdj step a s).1=false):zdj step (a++b) s=zdj step a s:=by
 rw[ze6,h];simp
theorem runS_le(step:T->σ->Bool×σ)(m:σ->Nat)(a:∀x s,m (step x s).2<=m s+1):∀(l:List T) (s:σ),m (zdj step l s).2<=m s+l.length
 |[],s=>by simp[zdj]
 |x::l,s=>by
  have b:=a x s;simp only[zdj,Zd];split
  ·have:=runS_le step m a l (step x s).2;omega
  ·simp only;omega
theorem runS_kid(step:T->σ->Bool×σ){f:T->List T}{l:List T}{i:Nat}{s a:σ}(h:i<l.length)(b:zdj step ((l.take i).flatMap f) s=(true,a)) :
  zdj step ((l.take (i+1)).flatMap f) s=zdj step (f l[i]) a:=by
 rw[Z4 h,Zi,ze6,b];simp
theorem runS_halt(step:T->σ->Bool×σ){f:T->List T}{l:List T}{i:Nat}{s b:σ}(a:zdj step ((l.take i).flatMap f) s=(false,b)):zdj step (l.flatMap f) s=(false,b):=by
 have:l.flatMap f=(l.take i).flatMap f++(l.drop i).flatMap f:=by rw[<-Zi,ZJ]
 rw[this,runS_stop _ (by rw[a]),a]
end Tr
theorem zk1{σ:Type}{g:FuncId}{cap:List D}{lo:Nat}{I:σ->HM->Prop}(step:T->σ->Bool×σ)(L:Low lo I)(m:σ->Nat)(M:Nat)(hm:∀x s,m (step x s).2<=m s+1) :
  ∀u:T,fitB u=true->(∀x∈z0c u,∀s,m s<M->Eff prog g (z0o x::cap) lo I s (step x s).2 (.bool (step x s).1)) ->
  ∀s,m s+(z0c u).length<=M->Eff prog 63 [z0o u,.fn g cap] lo I s (zdj step (z0c u) s).2 (.bool (zdj step (z0c u) s).1):=by
 refine z4a fun u j v p s hM=>?_;obtain⟨f,J,h3,h4⟩:=(zbg u).1 v;have j:=fun k P=>j k P (h4 k P) (fun x hx=>p x (z31 P hx));have a0:(z0c u).length=1+(u.kids.flatMap z0c).length:=by rw[z1l,Zd,Y0]
 have p:=p u (z1t u) s (by omega);have z:=hm u s;unfold maxLen at h3;have a:zdj step (z0c u) s=if (step u s).1=true then zdj step (u.kids.flatMap z0c) (step u s).2 else (false,(step u s).2):=by rw[z1l];rfl
 rw[a];clear a;generalize step u s=p1 at p z⊢;obtain⟨b1,R⟩:=p1;simp only at p z⊢;refine zbs L rfl fun H n Q hs=>?_;refine(zqzj [] func63 rfl (by decide+kernel) rfl ?_)
 repeat'(first|refine nxt ?_|((refine zqh fun K b=>?_);simp(disch:=omega)only[go_sem,Z0,↓reduceIte,Z1,Z2])|(refine b _ ?_;clear b K))
 refine z8l p (by show lo<=n+1;omega) (L.loc s H _ (fun id O=>z5v (by omega)) hs) fun W A l=>?_;have N:W n=some (.box 27 (z08 u)):=(l n Q).trans z3k;have w:∀id,lo<=id->id<n->W id=H id:=fun id f J=>(l id f).trans (z5v (by omega));clear l;(try(simp(disch:=omega)only[go_sem,Z0]));repeat'(first|refine nxt ?_|((refine zqh fun K b=>?_);simp(disch:=omega)only[go_sem,Z0,↓reduceIte,reduceCtorEq,Z1,N])|(refine zqd _ rfl ?_ ?_<;>intro c<;>(((try simp only[z05]at c);try omega)))|refine zqU ?_|(refine b _ ?_;clear b K))
 ·subst c;simp(disch:=omega)only[go_sem,Z0,↓reduceIte];exact⟨A,w⟩
 ·subst c;simp only[if_true];(refine zqL (fun mz d=>∃(i:_) (q:_),mz=u.kids.length-i/\d.t 1=.fn g cap/\d.t 12=z0l u.kids/\d.t 13=.int .i64 u.kids.length/\d.t 14=.int .i64 i/\(i<=u.kids.length)/\(n<d.nx)/\(I q d.H)/\(zdj step ((u.kids.take i).flatMap z0c) R=(true,q))/\(∀id,lo<=id->id<n->d.H id=H id)) ?_ ?_);rintro mz d ⟨i,q,rfl,q1,C,E,o,a1,a2,F,e,G⟩;rotate_left
  ·(refine⟨_,0,R,rfl,?_⟩);simp(disch:=omega)only[go_sem,Z0,true_and,Z9,Zo,z0l];exact⟨by omega,A,rfl,w⟩
  have j:=fun(h:i<u.kids.length)=>j u.kids[i] (Z5 h) q
  repeat'(first|((refine zqh fun K b=>?_);simp(disch:=omega)only[go_sem,Z0,↓reduceIte,reduceCtorEq,Z1,Z2,q1,C,E,o,z0l])|(refine zqd _ rfl ?_ ?_<;>intro c<;>(((try simp only[z05]at c);try omega)))|refine nxt ?_|refine zqz ?_|refine zqU ?_|(refine b _ ?_;clear b K))
  ·have Z:i<u.kids.length:=by omega
   obtain⟨X,U,Y⟩:∃X U,zdj step (z0c u.kids[i]) q=(X,U):=⟨_,_,rfl⟩
   have j:=j Z (by
    have f:=runS_le step m hm ((u.kids.take i).flatMap z0c) R;rw[e]at f;have J:(u.kids.flatMap z0c).length=((u.kids.take i).flatMap z0c).length+((z0c u.kids[i]).length+((u.kids.drop (i+1)).flatMap z0c).length):=by
     rw[<-Zq,<-Zb,List.getElem_cons_drop,<-Zq,<-Zi,ZJ]
    simp only at f
    omega)
   rw[Y]at j;have a:=(runS_kid step Z e).trans Y;refine z8l j (by show lo<=d.nx+1;omega) (L.loc q d.H _ (fun id O=>(z5v (by omega)).trans (z5v (by omega))) F) fun H2 B r=>?_;have y:∀id,lo<=id->id<n->H2 id=H id:=fun id f J=>((r id f).trans ((z5v (by omega)).trans (z5v (by omega)))).trans (G id f J);clear r;(try(simp(disch:=omega)only[go_sem,Z0]));repeat'(first|((first|refine zqh fun K b=>?_|refine zqr fun K b=>?_);simp(disch:=omega)only[go_sem,Z0,↓reduceIte,o])|((refine zqm _ rfl (fun c=>?_) (fun c=>?_))<;>(((try simp only[z05]at c);try omega)))|refine nxt ?_|refine zqU ?_|(refine b _ ?_;clear b K))
   ·subst c;simp(disch:=omega)only[go_sem,Z0];rw[runS_halt step a];exact⟨rfl,B,y⟩
   ·subst c;(refine⟨_,?_,i+1,U,rfl,?_⟩);rotate_left;simp(disch:=omega)only[go_sem,Z0,q1,C,E,o,true_and,Z7,Z6,a];rotate_left
    ·omega
    ·exact⟨by omega,B,y⟩
  ·have:u.kids.take i=u.kids:=Za (by omega);rw[this]at e;rw[e];simp(disch:=omega)only[go_sem,Z0];exact⟨F,G⟩
namespace Tr
def cntT(t:T):Nat:=(z0c t).length
def idsT(t:T):List Idv:=(z0c t).map T.id
theorem zwn(f:T->Bool):∀(l:List T) (s:Unit),zdj (fun x s=>(f x,s)) l s=(l.all f,())
 |[],_=>rfl
 |x::l,s=>by
  simp only[zdj,ZM];cases f x<;>simp[zwn f l]
theorem zwo:∀(l:List T) (n:Nat),zdj (fun _ n=>(true,n+1)) l n=(true,n+l.length)
 |[],_=>rfl
 |x::l,n=>by simp only[zdj,if_true,zwo l,Zd];congr 1;omega
theorem zwp:∀(l:List T) (a:List Idv),zdj (fun x a=>(true,a++[x.id])) l a=(true,a++l.map T.id)
 |[],a=>by simp[zdj]
 |x::l,a=>by simp[zdj,zwp l]
end Tr
theorem low_true(lo:Nat)(a:lo=0):Low lo (fun(_:Unit) (_:HM)=>True):=⟨fun _ _ _ _ h=>h,fun _ _ _ id o h _=>by omega⟩
theorem pc_every{g:FuncId}{cap:List D}(f:T->Bool)(b:pureD.pureL cap=true)(u:T)(a:fitB u=true)(c:∀x∈z0c u,PC prog g (z0o x::cap) (.bool (f x))) :
  PC prog 63 [z0o u,.fn g cap] (.bool ((z0c u).all f)):=by
 have h:=zk1 (fun x (s:Unit)=>(f x,s)) (low_true 0 rfl) (fun _=>0) (z0c u).length (fun _ _=>by simp) u a (fun x d s _=>(c x d).eff s) () (by simp);rw[zwn]at h;exact⟨by simp only[pureD.pureL,z02,pureD,b,Z3],rfl,(h noH 0 (ZL _) trivial).mono fun _ _ _ h=>h.1⟩
def zyv(u:T)(n:Nat):List HObj:=[.box 27 (z08 u),.box 3 [.int .i64 (IntKind.i64.wrap n)]]
def zu7(u:T)(l:List Idv):List HObj:=[.box 27 (z08 u),.box 59 [.osl 2 l.length],.row 23 l.length (l.flatMap z0a)]
theorem zgi(n:Nat)(u:T):lowD.lowL n (z08 u)=true:=z58 n _ (z04 u)
theorem low_C(u:T):Low 2 fun n H=>∀j,j<2->H j=(zyv u n)[j]?:=zni (zyv u) (fun _=>rfl) fun n o a=>by
 simp only[zyv,Zr,YB,or_false]at a;rcases a with rfl|rfl
 ·exact zgi _ _
 ·rfl
theorem low_I(u:T):Low 3 fun l H=>∀j,j<3->H j=(zu7 u l)[j]?:=zni (zu7 u) (fun _=>rfl) fun l o a=>by
 simp only[zu7,Zr,YB,or_false]at a;rcases a with rfl|rfl|rfl
 ·exact zgi _ _
 ·rfl
 ·exact z58 _ _ (z1z (fun _=>rfl) l)
theorem zyw(u x:T)(n:Nat):Eff prog 241 [z0o x,.ptr 1 0] 2 (fun n H=>∀j,j<2->H j=(zyv u n)[j]?) n (n+1) (.bool true):=by
 refine zbs (low_C u) rfl fun H c i f=>?_;have d:H 1=some (.box 3 [.int .i64 (IntKind.i64.wrap n)]):=f 1 (by omega);have g:H 0=some (.box 27 (z08 u)):=f 0 (by omega);have b:(1==c)=false:=by simp;omega
 have a:(0==c)=false:=by simp;omega
 refine(zqzj [] func241 rfl (by decide+kernel) rfl ?_)
 repeat'(first|((refine zqh fun K e=>?_);simp(disch:=omega)only[go_sem,Z0,↓reduceIte,Z1,Z2,ZP,d,b])|refine nxt ?_|refine zqU ?_|(refine e _ ?_;clear e K))
 (simp(disch:=omega)only[go_sem,Z0]);refine⟨fun j h=>?_,fun id d k=>?_⟩
 ·match j,h with
  |0,_=>simp[a,g,zyv]
  |1,_=>simp[zyv];simp only[IntKind.wrap_i64];omega
 ·rw[show (id==1)=false from by simp;omega,show (id==c)=false from by simp;omega];rfl
theorem eff_IDs1(u x:T)(l:List Idv)(n:l.length<5000000000000):Eff prog 64 [z0o x,.ptr 1 0] 3 (fun l H=>∀j,j<3->H j=(zu7 u l)[j]?) l (l++[x.id]) (.bool true):=by
 refine zbs (low_I u) rfl fun H c m e=>?_;have f:H 1=some (.box 59 [.osl 2 l.length]):=e 1 (by omega);have i:H 0=some (.box 27 (z08 u)):=e 0 (by omega);have g:H 2=some (.row 23 l.length (l.flatMap z0a)):=e 2 (by omega);have d:(1==c)=false:=by simp;omega
 have a:(0==c)=false:=by simp;omega
 have b:(2==c)=false:=by simp;omega
 refine(zqzj [] func64 rfl (by decide+kernel) rfl ?_)
 repeat'(first|((refine zqh fun K h=>?_);simp(disch:=omega)only[go_sem,Z0,↓reduceIte,reduceCtorEq,Z1,Zv,Z2,ZP,f,g,d,b])|refine nxt ?_|refine zqU ?_|(refine h _ ?_;clear h K))
 (simp(disch:=omega)only[go_sem,Z0]);refine⟨fun j k=>?_,fun id f g=>?_⟩
 ·match j,k with
  |0,_=>simp[a,i,zu7]
  |1,_=>simp[zu7]
  |2,_=>simp[zu7,z0a]
 ·rw[show (id==1)=false from by simp;omega,show (id==2)=false from by simp;omega,show (id==c)=false from by simp;omega];rfl
theorem zo0(u:T)(b:fitB u=true)(g:cntT u<=1000000000):PC prog 144 [z0o u] (.int .i64 (cntT u)):=by
 refine z14 1 (by simp only[pureD.pureL,z02,Z3]) rfl (zqzj [] func144 rfl (by decide+kernel) rfl ?_)
 repeat'(first|((refine zqh fun K a=>?_);simp(disch:=omega)only[go_sem,Z0,↓reduceIte,Z1,Z2,ZP])|(refine a _ ?_;clear a K))
 have h:=zk1 (fun _ n=>(true,n+1)) (low_C u) (fun _=>0) (z0c u).length (fun _ _=>by simp) u b (fun x _ n _=>zyw u x n) 0 (by simp);rw[zwo]at h;refine z8l h (ZL _) (fun j f=>?_) fun d c _=>?_
 ·match j,f with
  |0,_=>rfl
  |1,_=>rfl
 ·have e:d 1=some (.box 3 [.int .i64 (IntKind.i64.wrap ((0+(z0c u).length:Nat):Int))]):=c 1 (by omega);(try(simp(disch:=omega)only[go_sem]));repeat'(first|((refine zqh fun K a=>?_);simp(disch:=omega)only[go_sem,Z0,↓reduceIte,Z1,e])|refine nxt ?_|refine zqU ?_|(refine a _ ?_;clear a K))
  refine z1o ?_;exact zad (by unfold cntT at g;omega)
theorem pc_IDs(u:T)(c:fitB u=true)(m:cntT u<=5000000000000):PC prog 19 [z0o u] (z2k (idsT u)):=by
 refine z14 2 (by simp only[pureD.pureL,z02,Z3]) (z68 _) (zqzj [] func19 rfl (by decide+kernel) rfl ?_);(refine zqh fun K a=>?_);(simp only[go_sem,↓reduceIte]);(refine a _ ?_);(clear a K);refine z33 fun K a=>?_;simp(disch:=omega)only[go_sem,Z1];refine a _ _ (zpx (b:=1) (e:=59) 23 (by(simp(disch:=omega)only[go_sem,Z0]))) ?_;clear a K
 repeat'(((refine zqh fun K a=>?_);simp(disch:=omega)only[go_sem,Z0,↓reduceIte,Z1,Z2]))
 have h:=zk1 (fun x l=>(true,l++[x.id])) (low_I u) List.length (z0c u).length (fun x l=>by simp) u c (fun x _ l n=>eff_IDs1 u x l (by unfold cntT at m;omega)) [] (by simp);rw[zwp]at h;refine z8l h (ZL _) (fun j k=>?_) fun f d _=>?_
 ·match j,k with
  |0,_=>rfl
  |1,_=>rfl
  |2,_=>rfl
 ·have g:f 1=some (.box 59 [.osl 2 (idsT u).length]):=d 1 (by omega);have i:f 2=some (.row 23 (idsT u).length ((idsT u).flatMap z0a)):=d 2 (by omega);(try(simp(disch:=omega)only[go_sem]));repeat'(first|((refine zqh fun K a=>?_);simp(disch:=omega)only[go_sem,Z0,↓reduceIte,Z1,g])|refine nxt ?_|refine zqU ?_|(refine a _ ?_;clear a K))
  refine z3j ?_;exact z2b 0 i z25 ze7 (fun _=>rfl) (fun _=>rfl)
end
section
open Abs Facts Tr
attribute [local irreducible] awp
namespace Tr
def zb4(p:Int->Bool)(s:ByteArray):Nat:=((bl s).takeWhile fun b => !p b.toNat).length
theorem zrg{p:Int->Bool}{s:ByteArray}{k:Nat}(d:k<=s.size)(b:∀j,(a:j<k)->p ((bl s)[j]'(by rw[z22];omega)).toNat=false)(c:∀h:k<s.size,p ((bl s)[k]'h).toNat=true):zb4 p s=k:=by
 unfold zb4;refine z7x (by rw[z22];exact d) (fun j a=>by rw[b j a];rfl) (fun h=>by rw[c h];rfl)
end Tr
theorem decode_lo{s:ByteArray}{i:Nat}(h:i<s.size)(a:((bl s)[i]'h).toNat<128):Utf8.decode s i=(((bl s)[i]'h).toNat,1):=decode_ascii s i h a
theorem decode_hi{s:ByteArray}{i:Nat}(h:i<s.size)(a:128<=((bl s)[i]'h).toNat):128<=(Utf8.decode s i).1:=(decode_high s i h a).1
theorem zrh(s:ByteArray)(B:s.size<=maxLen){g:FuncId}{cap:List D}(p:Int->Bool)(d:pureD.pureL cap=true)
  (x:∀r:Nat,r<=2147483647->PC prog g (.int .i32 r::cap) (.bool (p r))) (c:∀r:Nat,128<=r->p r=true) :
  PC prog 321 [.str s,.fn g cap,.bool true] (.int .i64 (if zb4 p s<s.size then (zb4 p s:Int) else -1)):=by
 unfold maxLen at B;refine z14 1 (by simp only[pureD.pureL,pureD,d,Z3]) rfl (zqzj [] func321 rfl (by decide+kernel) rfl ?_)
 repeat'(first|refine nxt ?_|((refine zqh fun K b=>?_);simp(disch:=omega)only[go_sem,Z0,↓reduceIte])|(refine b _ ?_;clear b K))
 have v:∀i (h:i<s.size),p (Utf8.decode s i).1=p ((bl s)[i]'h).toNat/\(p ((bl s)[i]'h).toNat=false->(Utf8.decode s i).2=1):=fun i h=>by
  rcases ZQ ((bl s)[i]'h).toNat 128 with hb|hb
  ·rw[decode_lo h hb];exact⟨rfl,fun _=>rfl⟩
  ·rw[c _ (decode_hi h hb),c _ hb];exact⟨rfl,fun h=>by cases h⟩
 (refine zqL (fun y q=>∃(i:_),y=s.size-i/\q.t 1=.fn g cap/\q.t 2=.bool true/\q.t 10=.it 0/\q.H 0=some (.raw (.stringIter s i))/\(i<=s.size)/\(∀j,(o:j<i)->(h:j<(bl s).length)->p (bl s)[j].toNat=false)/\(1<=q.nx)) ?_ ?_);rintro y q ⟨i,rfl,z,A,l,m,C,n,E⟩;rotate_left
 ·(refine⟨_,0,rfl,?_⟩);simp(disch:=omega)only[go_sem,Z0,Z2,true_and,and_true];intro j o;omega
 by_cases u:i<s.size
 ·have x:=x (Utf8.decode s i).1 (decode_le s i);obtain⟨a,f⟩:=v i u
  repeat'(first|((first|refine zqh fun K b=>?_|refine zqs (x) ?_);simp(disch:=omega)only[go_sem,Z0,↓reduceIte,z,A,l,m,u])|((first|refine zqd _ rfl (fun d=>?_) (fun d=>?_)|refine zqm _ rfl (fun d=>?_) (fun d=>?_))<;>(first|(cases d;done)|((try omega))))|refine nxt ?_|refine zqU ?_|(refine b _ ?_;clear b K))
  ·refine z1o ?_;rw[zrg (k:=i) (by omega) (fun j o=>n j o (by rw[z22];omega)) (fun h=>by rw[<-a];assumption),if_pos u]
  ·have a:=a.symm.trans (by assumption);have f:=f a;(refine⟨_,?_,i+1,rfl,?_⟩);rotate_left;simp(disch:=omega)only[go_sem,Z0,z,A,l,m,true_and,f];rotate_left
   ·omega
   ·refine⟨by omega,fun j o h=>?_,by omega⟩
    by_cases e:j=i
    ·subst e;exact a
    ·exact n j (by omega) h
 ·repeat'(first|((refine zqh fun K b=>?_);simp(disch:=omega)only[go_sem,↓reduceIte,l,m,u])|(refine zqd _ rfl ?_ ?_<;>intro d<;>(first|(cases d;done)|((try omega))))|refine nxt ?_|refine zqz ?_|refine zqU ?_|(refine b _ ?_;clear b K))
  refine z1o ?_;have w:i=s.size:=by omega
  subst w;rw[zrg (k:=s.size) (by omega) (fun j o=>n j o (by rw[z22];omega)) (fun h=>by omega),if_neg (by omega)]
theorem zh4(s:ByteArray)(e:s.size<=maxLen){g:FuncId}{cap:List D}(p:Int->Bool)(c:pureD.pureL cap=true)
  (d:∀r:Nat,r<=2147483647->PC prog g (.int .i32 r::cap) (.bool (p r))) (a:∀r:Nat,128<=r->p r=true) :
  PC prog 301 [.str s,.fn g cap] (.int .i64 (if zb4 p s<s.size then (zb4 p s:Int) else -1)):=by
 have h:=zrh s e p c d a;refine z14 1 (by simp only[pureD.pureL,pureD,c,Z3]) rfl (zqzj [] func301 rfl (by decide+kernel) rfl ?_)
 repeat'(first|((first|refine zqh fun K b=>?_|refine zqs (h) ?_);simp(disch:=omega)only[go_sem,Z0])|refine nxt ?_|refine zqU ?_|(refine b _ ?_;clear b K))
 exact z1o rfl
theorem zhp(s:ByteArray)(e:s.size<=maxLen){g:FuncId}{cap:List D}(p:Int->Bool)(c:pureD.pureL cap=true)
  (d:∀r:Nat,r<=2147483647->PC prog g (.int .i32 r::cap) (.bool (p r))) (a:∀r:Nat,128<=r->p r=true) :
  PC prog 271 [.str s,.fn g cap] (.bool (decide (zb4 p s<s.size))):=by
 have h:=zh4 s e p c d a;refine z14 1 (by simp only[pureD.pureL,pureD,c,Z3]) rfl (zqzj [] func271 rfl (by decide+kernel) rfl ?_)
 repeat'(first|((first|refine zqh fun K b=>?_|refine zqs (h) ?_);simp(disch:=omega)only[go_sem,Z0,↓reduceIte])|refine nxt ?_|refine zqU ?_|(refine b _ ?_;clear b K))
 refine z01 ?_
 by_cases h:zb4 p s<s.size
 ·rw[if_pos h];simp[h]
 ·rw[if_neg h];simp[h]
def zh5(r:Int):Bool:=decide (r<48) ||decide (57<r)
def zf9(r:Int):Bool:=decide (r<65) ||decide (90<r)
theorem zyz(r:Nat):PC prog 302 [.int .i32 r] (.bool (zh5 r)):=by
 refine z14 1 (by simp only[pureD.pureL,pureD,Z3]) rfl (zqzj [] func302 rfl (by decide+kernel) rfl ?_)
 repeat'(first|((refine zqh fun K d=>?_);simp(disch:=omega)only[go_sem,Z0,↓reduceIte])|refine nxt ?_|refine zqU ?_|(refine d _ ?_;clear d K)|(refine zqf (fun c=>?_) (fun c=>?_)<;>(have a:=c;try simp only[z05]at a)<;>((first|have b:=eq_false a|have b:=eq_true a);simp(disch:=omega)only[go_sem,Z0,↓reduceIte,b];clear c b;try omega)))
 ·exact z01 (by unfold zh5;rw[decide_eq_false (show ¬(r:Int)<48 by assumption)];rfl)
 ·exact z01 (by unfold zh5;rw[decide_eq_true (show (r:Int)<48 by assumption)];rfl)
theorem pc_Valid1(r:Nat):PC prog 270 [.int .i32 r] (.bool (zf9 r)):=by
 refine z14 1 (by simp only[pureD.pureL,pureD,Z3]) rfl (zqzj [] func270 rfl (by decide+kernel) rfl ?_)
 repeat'(first|((refine zqh fun K d=>?_);simp(disch:=omega)only[go_sem,Z0,↓reduceIte])|refine nxt ?_|refine zqU ?_|(refine d _ ?_;clear d K)|(refine zqf (fun c=>?_) (fun c=>?_)<;>(have a:=c;try simp only[z05]at a)<;>((first|have b:=eq_false a|have b:=eq_true a);simp(disch:=omega)only[go_sem,Z0,↓reduceIte,b];clear c b;try omega)))
 ·exact z01 (by unfold zf9;rw[decide_eq_false (show ¬(r:Int)<65 by assumption)];rfl)
 ·exact z01 (by unfold zf9;rw[decide_eq_true (show (r:Int)<65 by assumption)];rfl)
def zri(s:ByteArray):ByteArray:=if zba s<s.size then s.extract 0 (zba s) else s
def zz0(s:ByteArray):ByteArray:=if zba s<s.size then s.extract (zba s) s.size else Zg
theorem zma(s:ByteArray)(a b:Nat):bl (s.extract a b)=((bl s).take b).drop a:=by
 unfold bl;rw[ByteArray.data_extract,Array.toList_extract,List.extract];rw[List.drop_take]
theorem zwq(s:ByteArray):bl (zri s)=(bl s).take (zba s):=by
 unfold zri;have:=zfz s;split
 ·rw[zma,ZE]
 ·rw[Za (by rw[z22];omega)]
theorem zwr(s:ByteArray):bl (zz0 s)=(bl s).drop (zba s):=by
 unfold zz0;have:=zfz s;split
 ·rw[zma,Za (by rw[z22];omega)]
 ·rw[List.drop_eq_nil_of_le (by rw[z22];omega)];rfl
theorem zz1(s:ByteArray):(zri s).size=zba s:=by
 have:=zfz s;rw[<-z22,zwq,ZZ,z22];omega
theorem zz2(s:ByteArray):(zz0 s).size=s.size-zba s:=by rw[<-z22,zwr,Yb,z22]
theorem zz3:(fun b:UInt8 => !zh5 b.toNat)=dig:=by
 funext b
 unfold zh5 dig;rcases ZQ b.toNat 48 with h|h
 ·rw[decide_eq_true (show (b.toNat:Int)<48 by omega),decide_eq_false (show ¬(48<=b.toNat/\b.toNat<=57) by omega)];rfl
 ·rw[decide_eq_false (show ¬(b.toNat:Int)<48 by omega)];rcases ZQ 57 b.toNat with h2|h2
  ·rw[decide_eq_true (show (57:Int)<b.toNat by omega),decide_eq_false (show ¬(48<=b.toNat/\b.toNat<=57) by omega)];rfl
  ·rw[decide_eq_false (show ¬(57:Int)<b.toNat by omega),decide_eq_true (show 48<=b.toNat/\b.toNat<=57 by omega)];rfl
theorem zmb:(fun b:UInt8 => !zf9 b.toNat)=cap:=by
 funext b
 unfold zf9 cap;rcases ZQ b.toNat 65 with h|h
 ·rw[decide_eq_true (show (b.toNat:Int)<65 by omega),decide_eq_false (show ¬(65<=b.toNat/\b.toNat<=90) by omega)];rfl
 ·rw[decide_eq_false (show ¬(b.toNat:Int)<65 by omega)];rcases ZQ 90 b.toNat with h2|h2
  ·rw[decide_eq_true (show (90:Int)<b.toNat by omega),decide_eq_false (show ¬(65<=b.toNat/\b.toNat<=90) by omega)];rfl
  ·rw[decide_eq_false (show ¬(90:Int)<b.toNat by omega),decide_eq_true (show 65<=b.toNat/\b.toNat<=90 by omega)];rfl
theorem zak{α:Type}(q:α->Bool):∀(l:List α),((l.takeWhile q).length<l.length) ↔ l.all q=false
 |[]=>by simp
 |x::l=>by
  rw[Ys,ZM];cases q x
  ·simp
  ·simp[zak q l]
theorem zo2(s:ByteArray):decide (zb4 zf9 s<s.size) = !(bl s).all cap:=by
 have h:=zak (fun b:UInt8 => !zf9 b.toNat) (bl s);rw[zmb]at h;unfold zb4;rw[zmb,<-z22];cases a:(bl s).all cap
 ·exact decide_eq_true (h.2 a)
 ·exact decide_eq_false (fun c=>by rw[h.1 c]at a;cases a)
theorem pc_parted(s:ByteArray)(d:s.size<=maxLen):PC prog 269 [.str s] (.tup [.str (zri s),.str (zz0 s)]):=by
 have h:=zh4 s d (cap:=[]) zh5 rfl (fun r _=>zyz r) (fun r f=>by unfold zh5;rw[decide_eq_true (show (57:Int)<r by omega),YM]);rw[show zb4 zh5 s=zba s from by unfold zb4 zba;rw[zz3]]at h;have e:=zfz s;unfold maxLen at d;refine z14 2 (by simp only[pureD.pureL,pureD,Z3]) rfl (zqzj [] func269 rfl (by decide+kernel) rfl ?_);unfold zri zz0
 by_cases b:zba s<s.size
 ·rw[if_pos b]at h;rw[if_pos b,if_pos b]
  repeat'(first|refine nxt ?_|((first|refine zqh fun K a=>?_|refine zqe (by decide+kernel) fun K a=>?_|refine zqs (h) ?_);simp(disch:=omega)only[go_sem,Z0,↓reduceIte])|(refine zqd _ rfl ?_ ?_<;>intro c<;>(first|(cases c;done)|((try simp only[decide_eq_false_iff_not]at c);try omega)))|refine zqU ?_|(refine a _ ?_;clear a K))
  exact z06 rfl (XZ _)
 ·rw[if_neg b]at h;rw[if_neg b,if_neg b]
  repeat'(first|refine nxt ?_|((first|refine zqh fun K a=>?_|refine zqs (h) ?_);simp(disch:=omega)only[go_sem,Z0,↓reduceIte,ZA])|(refine zqd _ rfl ?_ ?_<;>intro c<;>(first|(cases c;done)|((try omega))))|refine zqU ?_|(refine a _ ?_;clear a K))
  exact z06 rfl (XZ _)
theorem zal(s:ByteArray)(g:s.size<=maxLen):PC prog 186 [.str s] (.bool (z3x s)):=by
 have h:=pc_parted s g;have o:=zz1 s;have p:=zz2 s;have k:=zfz s;have f:=zhp (zz0 s) (by omega) (cap:=[]) zf9 rfl (fun r _=>pc_Valid1 r) (fun r q=>by unfold zf9;rw[decide_eq_true (show (90:Int)<r by omega),YM]);rw[zo2,zwr]at f;have i:=z22 (zri s);unfold maxLen at g;have m:YA 0=0:=rfl;have c:∀h:0<(zri s).size,(bl (zri s))[0].toNat=((bl s).headD 0).toNat:=fun h=>by
  refine(congrArg UInt8.toNat (bhead h)).trans ?_;rw[zwq]
  congr 1
  obtain⟨n,l⟩:∃n,zba s=n+1:=⟨zba s-1,by omega⟩
  rw[l];cases bl s<;>rfl
 refine z14 1 (by simp only[pureD.pureL,pureD,Z3]) rfl (zqzj [] func186 rfl (by decide+kernel) rfl ?_)
 repeat'(first|((first|refine zqh fun K e=>?_|refine zqs (h) ?_|refine zqs (f) ?_);simp(disch:=omega)only[go_sem,Z0,↓reduceIte])|refine nxt ?_|refine zqU ?_|(refine e _ ?_;clear e K)|(refine zqf (fun d=>?_) (fun d=>?_)<;>(have a:=d;try simp only[z05]at a)<;>((first|have b:=eq_false a|have b:=eq_true a);simp(disch:=omega)only[go_sem,Z0,↓reduceIte,Zu,b,zt0,m];clear d b;try omega)))
 ·have j:=c (by omega);exact z01 (by unfold z3x;rw[decide_eq_true (by omega),Zh,Y9])
 ·exact z01 (by unfold z3x;rw[decide_eq_false (by omega)];rfl)
 ·have j:=c (by omega);exact z01 (by unfold z3x;rw[decide_eq_false (by omega)];rfl)
 ·exact z01 (by unfold z3x;rw[decide_eq_false (by omega)];rfl)
 ·exact z01 (by unfold z3x;rw[decide_eq_false (by omega)];rfl)
def encB(b:UInt8):D:=.int .u8 b.toNat
namespace Tr
def z1r{α:Type}(f:α->Bool)(l:List α):Nat:=(l.takeWhile fun x => !f x).length
theorem z2j{α:Type}{f:α->Bool}{l:List α}{k:Nat}(d:k<=l.length)(b:∀j,(a:j<k)->f (l[j]'(by omega))=false)(c:∀h:k<l.length,f l[k]=true):z1r f l=k:=by
 unfold z1r;exact z7x d (fun j a=>by rw[b j a];rfl) (fun h=>by rw[c h];rfl)
theorem z7e{α:Type}(f:α->Bool)(l:List α):decide (z1r f l<l.length)=l.any f:=by
 have h:=zak (fun x => !f x) l;have b:(l.all fun x => !f x) = !l.any f:=by rw[<-Yo]
 unfold z1r;rw[b]at h;cases a:l.any f
 ·exact decide_eq_false (fun c=>by have:=h.1 c;rw[a]at this;cases this)
 ·exact decide_eq_true (h.2 (by rw[a];rfl))
end Tr
theorem zob(nn:Bool)(l:List UInt8)(v:l.length<=maxLen){g:FuncId}{cap:List D}(f:UInt8->Bool)(c:pureD.pureL cap=true)(n:∀x∈l,PC prog g (encB x::cap) (.bool (f x))) :
  PC prog 336 [.rsl nn 1 (l.map encB),.fn g cap] (.int .i64 (if z1r f l<l.length then (z1r f l:Int) else -1)):=by
 unfold maxLen at v;refine z14 1 (by simp only[pureD.pureL,pureD,c,z0x (f:=encB) (fun _=>rfl) l,Z3]) rfl (zqzj [] func336 rfl (by decide+kernel) rfl ?_)
 repeat'(first|refine nxt ?_|((refine zqh fun K b=>?_);simp(disch:=omega)only[go_sem,Z0])|(refine b _ ?_;clear b K))
 (refine zqL (fun o m=>∃(i:_),o=l.length-i/\m.t 0=.rsl nn 1 (l.map encB)/\m.t 1=.fn g cap/\m.t 7=.int .i64 l.length/\m.t 8=.int .i64 i/\(i<=l.length)/\(∀j,(d:j<i)->(h:j<l.length)->f l[j]=false)) ?_ ?_);rintro o m ⟨i,rfl,p,q,r,s,w,a⟩;rotate_left
 ·(refine⟨_,0,rfl,?_⟩);simp(disch:=omega)only[go_sem,Z0,true_and,Z9];intro j d;omega
 have n:=fun(h:i<l.length)=>n l[i] (Z5 h)
 repeat'(first|((first|refine zqh fun K b=>?_|refine zqr fun K b=>?_|refine zqs (n (by omega)) ?_);simp(disch:=omega)only[go_sem,Z0,↓reduceIte,reduceCtorEq,Z1,p,q,r,s,encB])|((first|refine zqd _ rfl (fun c=>?_) (fun c=>?_)|refine zqm _ rfl (fun c=>?_) (fun c=>?_))<;>(((try simp only[z05]at c);try omega)))|refine nxt ?_|refine zqz ?_|refine zqU ?_|(refine b _ ?_;clear b K))
 ·refine z1o ?_;rw[z2j (k:=i) (by omega) (fun j d=>a j d (by omega)) (fun h=>by assumption),if_pos (by omega)]
 ·(refine⟨_,?_,i+1,rfl,?_⟩);rotate_left;simp(disch:=omega)only[go_sem,Z0,p,q,r,s,true_and,Z7,Z6];rotate_left
  ·omega
  ·refine⟨by omega,fun j d h=>?_⟩
   by_cases e:j=i
   ·subst e;assumption
   ·exact a j (by omega) h
 ·refine z1o ?_;have u:i=l.length:=by omega
  subst u;rw[z2j (k:=l.length) (by omega) (fun j d=>a j d (by omega)) (fun h=>by omega),if_neg (by omega)]
theorem zht(nn:Bool)(l:List UInt8)(c:l.length<=maxLen){g:FuncId}{cap:List D}(f:UInt8->Bool)(b:pureD.pureL cap=true)(d:∀x∈l,PC prog g (encB x::cap) (.bool (f x))) :
  PC prog 324 [.rsl nn 1 (l.map encB),.fn g cap] (.bool (l.any f)):=by
 have h:=zob nn l c f b d;refine z14 1 (by simp only[pureD.pureL,pureD,b,z0x (f:=encB) (fun _=>rfl) l,Z3]) rfl (zqzj [] func324 rfl (by decide+kernel) rfl ?_)
 repeat'(first|((first|refine zqh fun K a=>?_|refine zqs (h) ?_);simp(disch:=omega)only[go_sem,Z0,↓reduceIte])|refine nxt ?_|refine zqU ?_|(refine a _ ?_;clear a K))
 refine z01 ?_;rw[<-z7e]
 by_cases h:z1r f l<l.length
 ·rw[if_pos h];simp[h]
 ·rw[if_neg h];simp[h]
theorem zoc(nn:Bool)(l:List ByteArray)(v:l.length<=maxLen){g:FuncId}{cap:List D}(f:ByteArray->Bool)(c:pureD.pureL cap=true)(n:∀x∈l,PC prog g (D.str x::cap) (.bool (f x))) :
  PC prog 322 [.rsl nn 1 (l.map D.str),.fn g cap] (.int .i64 (if z1r f l<l.length then (z1r f l:Int) else -1)):=by
 unfold maxLen at v;refine z14 1 (by simp only[pureD.pureL,pureD,c,z0x (f:=D.str) (fun _=>rfl) l,Z3]) rfl (zqzj [] func322 rfl (by decide+kernel) rfl ?_)
 repeat'(first|refine nxt ?_|((refine zqh fun K b=>?_);simp(disch:=omega)only[go_sem,Z0])|(refine b _ ?_;clear b K))
 (refine zqL (fun o m=>∃(i:_),o=l.length-i/\m.t 0=.rsl nn 1 (l.map D.str)/\m.t 1=.fn g cap/\m.t 7=.int .i64 l.length/\m.t 8=.int .i64 i/\(i<=l.length)/\(∀j,(d:j<i)->(h:j<l.length)->f l[j]=false)) ?_ ?_);rintro o m ⟨i,rfl,p,q,r,s,w,a⟩;rotate_left
 ·(refine⟨_,0,rfl,?_⟩);simp(disch:=omega)only[go_sem,Z0,true_and,Z9];intro j d;omega
 have n:=fun(h:i<l.length)=>n l[i] (Z5 h)
 repeat'(first|((first|refine zqh fun K b=>?_|refine zqr fun K b=>?_|refine zqs (n (by omega)) ?_);simp(disch:=omega)only[go_sem,Z0,↓reduceIte,reduceCtorEq,Z1,p,q,r,s])|((first|refine zqd _ rfl (fun c=>?_) (fun c=>?_)|refine zqm _ rfl (fun c=>?_) (fun c=>?_))<;>(((try simp only[z05]at c);try omega)))|refine nxt ?_|refine zqz ?_|refine zqU ?_|(refine b _ ?_;clear b K))
 ·refine z1o ?_;rw[z2j (k:=i) (by omega) (fun j d=>a j d (by omega)) (fun h=>by assumption),if_pos (by omega)]
 ·(refine⟨_,?_,i+1,rfl,?_⟩);rotate_left;simp(disch:=omega)only[go_sem,Z0,p,q,r,s,true_and,Z7,Z6];rotate_left
  ·omega
  ·refine⟨by omega,fun j d h=>?_⟩
   by_cases e:j=i
   ·subst e;assumption
   ·exact a j (by omega) h
 ·refine z1o ?_;have u:i=l.length:=by omega
  subst u;rw[z2j (k:=l.length) (by omega) (fun j d=>a j d (by omega)) (fun h=>by omega),if_neg (by omega)]
theorem zhu(nn:Bool)(l:List ByteArray)(c:l.length<=maxLen){g:FuncId}{cap:List D}(f:ByteArray->Bool)(b:pureD.pureL cap=true)(d:∀x∈l,PC prog g (D.str x::cap) (.bool (f x))) :
  PC prog 303 [.rsl nn 1 (l.map D.str),.fn g cap] (.bool (l.any f)):=by
 have h:=zoc nn l c f b d;refine z14 1 (by simp only[pureD.pureL,pureD,b,z0x (f:=D.str) (fun _=>rfl) l,Z3]) rfl (zqzj [] func303 rfl (by decide+kernel) rfl ?_)
 repeat'(first|((first|refine zqh fun K a=>?_|refine zqs (h) ?_);simp(disch:=omega)only[go_sem,Z0,↓reduceIte])|refine nxt ?_|refine zqU ?_|(refine a _ ?_;clear a K))
 refine z01 ?_;rw[<-z7e]
 by_cases h:z1r f l<l.length
 ·rw[if_pos h];simp[h]
 ·rw[if_neg h];simp[h]
theorem zod(nn:Bool)(l:List Wd)(v:l.length<=maxLen){g:FuncId}{cap:List D}(f:Wd->Bool)(c:pureD.pureL cap=true)(n:∀x∈l,PC prog g (z9i x::cap) (.bool (f x))) :
  PC prog 306 [.rsl nn 4 (l.map z9i),.fn g cap] (.int .i64 (if z1r f l<l.length then (z1r f l:Int) else -1)):=by
 unfold maxLen at v;refine z14 1 (by simp only[pureD.pureL,pureD,c,z0x (f:=z9i) (fun _=>rfl) l,Z3]) rfl (zqzj [] func306 rfl (by decide+kernel) rfl ?_)
 repeat'(first|refine nxt ?_|((refine zqh fun K b=>?_);simp(disch:=omega)only[go_sem,Z0])|(refine b _ ?_;clear b K))
 (refine zqL (fun o m=>∃(i:_),o=l.length-i/\m.t 0=.rsl nn 4 (l.map z9i)/\m.t 1=.fn g cap/\m.t 7=.int .i64 l.length/\m.t 8=.int .i64 i/\(i<=l.length)/\(∀j,(d:j<i)->(h:j<l.length)->f l[j]=false)) ?_ ?_);rintro o m ⟨i,rfl,p,q,r,s,w,a⟩;rotate_left
 ·(refine⟨_,0,rfl,?_⟩);simp(disch:=omega)only[go_sem,Z0,true_and,Z9];intro j d;omega
 have n:=fun(h:i<l.length)=>n l[i] (Z5 h)
 repeat'(first|((first|refine zqh fun K b=>?_|refine zqr fun K b=>?_|refine zqs (n (by omega)) ?_);simp(disch:=omega)only[go_sem,Z0,↓reduceIte,reduceCtorEq,Z1,p,q,r,s])|((first|refine zqd _ rfl (fun c=>?_) (fun c=>?_)|refine zqm _ rfl (fun c=>?_) (fun c=>?_))<;>(((try simp only[z05]at c);try omega)))|refine nxt ?_|refine zqz ?_|refine zqU ?_|(refine b _ ?_;clear b K))
 ·refine z1o ?_;rw[z2j (k:=i) (by omega) (fun j d=>a j d (by omega)) (fun h=>by assumption),if_pos (by omega)]
 ·(refine⟨_,?_,i+1,rfl,?_⟩);rotate_left;simp(disch:=omega)only[go_sem,Z0,p,q,r,s,true_and,Z7,Z6];rotate_left
  ·omega
  ·refine⟨by omega,fun j d h=>?_⟩
   by_cases e:j=i
   ·subst e;assumption
   ·exact a j (by omega) h
 ·refine z1o ?_;have u:i=l.length:=by omega
  subst u;rw[z2j (k:=l.length) (by omega) (fun j d=>a j d (by omega)) (fun h=>by omega),if_neg (by omega)]
theorem zhv(nn:Bool)(l:List Wd)(c:l.length<=maxLen){g:FuncId}{cap:List D}(f:Wd->Bool)(b:pureD.pureL cap=true)(d:∀x∈l,PC prog g (z9i x::cap) (.bool (f x))) :
  PC prog 275 [.rsl nn 4 (l.map z9i),.fn g cap] (.bool (l.any f)):=by
 have h:=zod nn l c f b d;refine z14 1 (by simp only[pureD.pureL,pureD,b,z0x (f:=z9i) (fun _=>rfl) l,Z3]) rfl (zqzj [] func275 rfl (by decide+kernel) rfl ?_)
 repeat'(first|((first|refine zqh fun K a=>?_|refine zqs (h) ?_);simp(disch:=omega)only[go_sem,Z0,↓reduceIte])|refine nxt ?_|refine zqU ?_|(refine a _ ?_;clear a K))
 refine z01 ?_;rw[<-z7e]
 by_cases h:z1r f l<l.length
 ·rw[if_pos h];simp[h]
 ·rw[if_neg h];simp[h]
theorem zoe(nn:Bool)(l:List Idv)(v:l.length<=maxLen){g:FuncId}{cap:List D}(f:Idv->Bool)(c:pureD.pureL cap=true)(n:∀x∈l,PC prog g (z0z x::cap) (.bool (f x))) :
  PC prog 240 [.rsl nn 3 (l.map z0z),.fn g cap] (.int .i64 (if z1r f l<l.length then (z1r f l:Int) else -1)):=by
 unfold maxLen at v;refine z14 1 (by simp only[pureD.pureL,pureD,c,z0x (f:=z0z) (fun _=>rfl) l,Z3]) rfl (zqzj [] func240 rfl (by decide+kernel) rfl ?_)
 repeat'(first|refine nxt ?_|((refine zqh fun K b=>?_);simp(disch:=omega)only[go_sem,Z0])|(refine b _ ?_;clear b K))
 (refine zqL (fun o m=>∃(i:_),o=l.length-i/\m.t 0=.rsl nn 3 (l.map z0z)/\m.t 1=.fn g cap/\m.t 7=.int .i64 l.length/\m.t 8=.int .i64 i/\(i<=l.length)/\(∀j,(d:j<i)->(h:j<l.length)->f l[j]=false)) ?_ ?_);rintro o m ⟨i,rfl,p,q,r,s,w,a⟩;rotate_left
 ·(refine⟨_,0,rfl,?_⟩);simp(disch:=omega)only[go_sem,Z0,true_and,Z9];intro j d;omega
 have n:=fun(h:i<l.length)=>n l[i] (Z5 h)
 repeat'(first|((first|refine zqh fun K b=>?_|refine zqr fun K b=>?_|refine zqs (n (by omega)) ?_);simp(disch:=omega)only[go_sem,Z0,↓reduceIte,reduceCtorEq,Z1,p,q,r,s])|((first|refine zqd _ rfl (fun c=>?_) (fun c=>?_)|refine zqm _ rfl (fun c=>?_) (fun c=>?_))<;>(((try simp only[z05]at c);try omega)))|refine nxt ?_|refine zqz ?_|refine zqU ?_|(refine b _ ?_;clear b K))
 ·refine z1o ?_;rw[z2j (k:=i) (by omega) (fun j d=>a j d (by omega)) (fun h=>by assumption),if_pos (by omega)]
 ·(refine⟨_,?_,i+1,rfl,?_⟩);rotate_left;simp(disch:=omega)only[go_sem,Z0,p,q,r,s,true_and,Z7,Z6];rotate_left
  ·omega
  ·refine⟨by omega,fun j d h=>?_⟩
   by_cases e:j=i
   ·subst e;assumption
   ·exact a j (by omega) h
 ·refine z1o ?_;have u:i=l.length:=by omega
  subst u;rw[z2j (k:=l.length) (by omega) (fun j d=>a j d (by omega)) (fun h=>by omega),if_neg (by omega)]
theorem z7s(nn:Bool)(l:List Idv)(c:l.length<=maxLen){g:FuncId}{cap:List D}(f:Idv->Bool)(b:pureD.pureL cap=true)(d:∀x∈l,PC prog g (z0z x::cap) (.bool (f x))) :
  PC prog 138 [.rsl nn 3 (l.map z0z),.fn g cap] (.bool (l.any f)):=by
 have h:=zoe nn l c f b d;refine z14 1 (by simp only[pureD.pureL,pureD,b,z0x (f:=z0z) (fun _=>rfl) l,Z3]) rfl (zqzj [] func138 rfl (by decide+kernel) rfl ?_)
 repeat'(first|((first|refine zqh fun K a=>?_|refine zqs (h) ?_);simp(disch:=omega)only[go_sem,Z0,↓reduceIte])|refine nxt ?_|refine zqU ?_|(refine a _ ?_;clear a K))
 refine z01 ?_;rw[<-z7e]
 by_cases h:z1r f l<l.length
 ·rw[if_pos h];simp[h]
 ·rw[if_neg h];simp[h]
theorem zfm(nn:Bool)(l:List T)(v:l.length<=maxLen){g:FuncId}{cap:List D}(f:T->Bool)(c:pureD.pureL cap=true)(n:∀x∈l,PC prog g (z0o x::cap) (.bool (f x))) :
  PC prog 65 [.rsl nn 8 (l.map z0o),.fn g cap] (.int .i64 (if z1r f l<l.length then (z1r f l:Int) else -1)):=by
 unfold maxLen at v;refine z14 1 (by simp only[pureD.pureL,pureD,c,z0x (f:=z0o) (z02) l,Z3]) rfl (zqzj [] func65 rfl (by decide+kernel) rfl ?_)
 repeat'(first|refine nxt ?_|((refine zqh fun K b=>?_);simp(disch:=omega)only[go_sem,Z0])|(refine b _ ?_;clear b K))
 (refine zqL (fun o m=>∃(i:_),o=l.length-i/\m.t 0=.rsl nn 8 (l.map z0o)/\m.t 1=.fn g cap/\m.t 7=.int .i64 l.length/\m.t 8=.int .i64 i/\(i<=l.length)/\(∀j,(d:j<i)->(h:j<l.length)->f l[j]=false)) ?_ ?_);rintro o m ⟨i,rfl,p,q,r,s,w,a⟩;rotate_left
 ·(refine⟨_,0,rfl,?_⟩);simp(disch:=omega)only[go_sem,Z0,true_and,Z9];intro j d;omega
 have n:=fun(h:i<l.length)=>n l[i] (Z5 h)
 repeat'(first|((first|refine zqh fun K b=>?_|refine zqr fun K b=>?_|refine zqs (n (by omega)) ?_);simp(disch:=omega)only[go_sem,Z0,↓reduceIte,reduceCtorEq,Z1,p,q,r,s])|((first|refine zqd _ rfl (fun c=>?_) (fun c=>?_)|refine zqm _ rfl (fun c=>?_) (fun c=>?_))<;>(((try simp only[z05]at c);try omega)))|refine nxt ?_|refine zqz ?_|refine zqU ?_|(refine b _ ?_;clear b K))
 ·refine z1o ?_;rw[z2j (k:=i) (by omega) (fun j d=>a j d (by omega)) (fun h=>by assumption),if_pos (by omega)]
 ·(refine⟨_,?_,i+1,rfl,?_⟩);rotate_left;simp(disch:=omega)only[go_sem,Z0,p,q,r,s,true_and,Z7,Z6];rotate_left
  ·omega
  ·refine⟨by omega,fun j d h=>?_⟩
   by_cases e:j=i
   ·subst e;assumption
   ·exact a j (by omega) h
 ·refine z1o ?_;have u:i=l.length:=by omega
  subst u;rw[z2j (k:=l.length) (by omega) (fun j d=>a j d (by omega)) (fun h=>by omega),if_neg (by omega)]
theorem zhw(nn:Bool)(l:List T)(c:l.length<=maxLen){g:FuncId}{cap:List D}(f:T->Bool)(b:pureD.pureL cap=true)(d:∀x∈l,PC prog g (z0o x::cap) (.bool (f x))) :
  PC prog 243 [.rsl nn 8 (l.map z0o),.fn g cap] (.bool (l.any f)):=by
 have h:=zfm nn l c f b d;refine z14 1 (by simp only[pureD.pureL,pureD,b,z0x (f:=z0o) (z02) l,Z3]) rfl (zqzj [] func243 rfl (by decide+kernel) rfl ?_)
 repeat'(first|((first|refine zqh fun K a=>?_|refine zqs (h) ?_);simp(disch:=omega)only[go_sem,Z0,↓reduceIte])|refine nxt ?_|refine zqU ?_|(refine a _ ?_;clear a K))
 refine z01 ?_;rw[<-z7e]
 by_cases h:z1r f l<l.length
 ·rw[if_pos h];simp[h]
 ·rw[if_neg h];simp[h]
def odd(b:UInt8):Bool:=decide ((b.toNat:Int)<33) ||decide (126<(b.toNat:Int))
theorem odd_ink:(fun b:UInt8 => !odd b)=ink:=by
 funext b
 unfold odd ink;rcases ZQ b.toNat 33 with h|h
 ·rw[decide_eq_true (show (b.toNat:Int)<33 by omega),decide_eq_false (show ¬(33<=b.toNat/\b.toNat<=126) by omega)];rfl
 ·rw[decide_eq_false (show ¬(b.toNat:Int)<33 by omega)];rcases ZQ 126 b.toNat with h2|h2
  ·rw[decide_eq_true (show (126:Int)<b.toNat by omega),decide_eq_false (show ¬(33<=b.toNat/\b.toNat<=126) by omega)];rfl
  ·rw[decide_eq_false (show ¬(126:Int)<b.toNat by omega),decide_eq_true (show 33<=b.toNat/\b.toNat<=126 by omega)];rfl
theorem any_odd(l:List UInt8):l.any odd = !l.all ink:=by
 rw[<-odd_ink,<-Yo,Y9]
theorem bytesD_eq(s:ByteArray):zxf s=(bl s).map encB:=rfl
theorem pc_word1(b:UInt8):PC prog 323 [encB b] (.bool (odd b)):=by
 refine z14 1 rfl rfl (zqzj [] func323 rfl (by decide+kernel) rfl ?_)
 repeat'(first|((refine zqh fun K e=>?_);simp(disch:=omega)only[go_sem,Z0,↓reduceIte,encB])|refine nxt ?_|refine zqU ?_|(refine e _ ?_;clear e K)|(refine zqf (fun d=>?_) (fun d=>?_)<;>(have a:=d;try simp only[z05]at a)<;>((first|have c:=eq_false a|have c:=eq_true a);simp(disch:=omega)only[go_sem,Z0,↓reduceIte,c];clear d c;try omega)))
 ·exact z01 (by unfold odd;rw[decide_eq_false (show ¬(b.toNat:Int)<33 by assumption)];rfl)
 ·exact z01 (by unfold odd;rw[decide_eq_true (show (b.toNat:Int)<33 by assumption)];rfl)
theorem zle{s:ByteArray}(h:¬s=⟨#[]⟩):1<=s.size:=by
 rcases Nat.eq_zero_or_pos s.size with h0|h0
 ·exfalso;apply h;obtain⟨a⟩:=s;rw[ByteArray.mk.injEq];exact Array.eq_empty_of_size_eq_zero h0
 ·exact h0
theorem pc_wordP(s:ByteArray)(g:s.size<=maxLen):PC prog 305 [.str s] (.bool (z5t s)):=by
 have h:=zht true (bl s) (by rw[z22];exact g) (cap:=[]) odd rfl (fun b _=>pc_word1 b);rw[any_odd]at h;unfold maxLen at g;refine z14 1 rfl rfl (zqzj [] func305 rfl (by decide+kernel) rfl ?_)
 repeat'(first|((first|refine zqh fun K e=>?_|refine zqs (h) ?_);simp(disch:=omega)only[go_sem,Z0,↓reduceIte])|refine nxt ?_|refine zqU ?_|(refine e _ ?_;clear e K)|(refine zqf (fun d=>?_) (fun d=>?_)<;>(have a:=d;try simp only[z05]at a)<;>((first|have c:=eq_false a|have c:=eq_true a);simp(disch:=omega)only[go_sem,Z0,↓reduceIte,c,bytesD_eq];clear d c;try omega)))
 ·have f:=zle (by assumption);exact z01 (by unfold z5t;rw[decide_eq_true (by omega),Zh,Y9])
 ·exact z01 (by unfold z5t;rw[decide_eq_false (by omega)];rfl)
 ·have i:s=⟨#[]⟩:=by assumption
  subst i;exact z01 rfl
theorem zzi(s:ByteArray)(b:s.size<=maxLen):PC prog 304 [.str s] (.bool (!z5t s)):=by
 have h:=pc_wordP s b;refine z14 1 rfl rfl (zqzj [] func304 rfl (by decide+kernel) rfl ?_)
 repeat'(first|((first|refine zqh fun K a=>?_|refine zqs (h) ?_);simp(disch:=omega)only[go_sem,Z0])|refine nxt ?_|refine zqU ?_|(refine a _ ?_;clear a K))
 exact z01 rfl
theorem zmm(nn:Bool)(l:List ByteArray)(g:l.length<=maxLen)(i:∀s∈l,s.size<=maxLen):PC prog 273 [.rsl nn 1 (l.map .str)] (.bool (zee l)):=by
 have h:=zhu nn l g (cap:=[]) (fun s => !z5t s) rfl (fun s d=>zzi s (i s d));rw[show (l.any fun s => !z5t s) = !l.all z5t from by rw[<-List.not_all_eq_any_not]]at h;unfold maxLen at g;refine z14 1 (by simp only[pureD.pureL,pureD,z0x (f:=D.str) (fun _=>rfl) l,Z3]) rfl (zqzj [] func273 rfl (by decide+kernel) rfl ?_)
 repeat'(first|((first|refine zqh fun K e=>?_|refine zqs (h) ?_);simp(disch:=omega)only[go_sem,Z0,↓reduceIte])|refine nxt ?_|refine zqU ?_|(refine e _ ?_;clear e K)|(refine zqf (fun c=>?_) (fun c=>?_)<;>(have a:=c;try simp only[z05]at a)<;>((first|have b:=eq_false a|have b:=eq_true a);simp(disch:=omega)only[go_sem,Z0,↓reduceIte,b];clear c b;try omega)))
 ·exact z01 (by unfold zee;rw[decide_eq_true (by omega),Zh,Y9])
 ·exact z01 (by unfold zee;rw[decide_eq_false (by omega)];rfl)
theorem pc_rowP(l:List Wd)(A:l.length<=1000000)(v:∀w∈l,w.text.size<=maxLen):PC prog 317 [z0f l] (.bool (zdc l)):=by
 have h:=zmm false (l.map (·.text)) (by unfold maxLen;simp;omega) (fun s j=>by obtain⟨w,x,rfl⟩:=Zz.1 j;exact v w x);refine z14 1 (by simp only[pureD.pureL,z0g,Z3]) rfl (zqzj [3] func317 rfl (by decide+kernel) rfl ?_)
 repeat'(first|refine nxt ?_|((refine zqh fun K b=>?_);simp(disch:=omega)only[go_sem,Z0,↓reduceIte,z0f])|(refine b _ ?_;clear b K))
 (refine zqL (fun m c=>∃(i:_),m=l.length-i/\c.t 0=z0f l/\c.t 6=z0f l/\c.t 7=.int .i64 l.length/\c.t 8=.int .i64 i/\c.t 3=.osl 0 i/\c.H 0=some (.row 9 i (((l.take i).map (·.text)).map .str))/\(i<=l.length)/\(1<=c.nx)) ?_ ?_);rintro m c ⟨i,rfl,n,o,p,q,k,a,y,z⟩;rotate_left
 ·(refine⟨_,0,rfl,?_⟩);simp(disch:=omega)only[go_sem,Z0,Z2,and_self,Z9,Zj,z0f]
 have f:∀h:i<l.length,l.take (i+1)=l.take i++[l[i]]:=fun h=>Z4 h
 repeat'(first|((first|refine zqh fun K b=>?_|refine zqr fun K b=>?_);simp(disch:=omega)only[go_sem,Z0,↓reduceIte,reduceCtorEq,Z1,Z2,ZP,n,o,p,q,k,a,z0f])|(refine zqd _ rfl ?_ ?_<;>intro r<;>(((try simp only[z05]at r);try omega)))|refine nxt ?_|refine zqz ?_|refine zqU ?_|(refine b _ ?_;clear b K)|(refine zqf (fun g=>?_) (fun g=>?_)<;>(have d:=g;try simp only[z05]at d)<;>((first|have e:=eq_false d|have e:=eq_true d);simp(disch:=omega)only[go_sem,Z0,↓reduceIte,e,k];clear g e;try omega)))
 ·have f:=f (by omega);(refine⟨_,?_,i+1,rfl,?_⟩);rotate_left;simp(disch:=omega)only[go_sem,Z0,Z2,n,o,p,q,k,a,true_and,and_true,Z7,Z6,Zm,Zc,Zj,f];rotate_left
  ·omega
  ·omega
 ·have u:i=l.length:=by omega
  subst u;rw[Zn]at a;refine z20 (PC.borrow h rfl 3 (z00 (z8j 1 a z7q zbz (by simp) (zi5 _)) z0i)) ?_;(try(simp(disch:=omega)only[go_sem,Z0,↓reduceIte]));repeat'(first|refine nxt ?_|refine zqU ?_|(refine b _ ?_;clear b K))
  exact z01 (by rw[zn2,decide_eq_true (by omega)];rfl)
 ·exact z01 (by rw[zn2,decide_eq_false (by omega)];rfl)
def nameL:List ByteArray:=[⟨#[98,111,111,107]⟩,⟨#[112,97,114,116]⟩,⟨#[115,101,99,116,105,111,110]⟩,⟨#[112,97,114,97,103,114,97,112,104]⟩,⟨#[116,97,98,108,101]⟩,⟨#[114,111,119]⟩,⟨#[99,101,108,108]⟩,⟨#[110,111,116,101]⟩]
def zgr(k:Int):ByteArray:=if 0<=k/\k<8 then nameL.getD k.toNat Zg else Zg
theorem zry{k:Int}(h:0<=k/\k<8):k=0 \/ k=1 \/ k=2 \/ k=3 \/ k=4 \/ k=5 \/ k=6 \/ k=7:=by omega
theorem zuk(k:Int):PC prog 316 [.int .i64 k] (.str (zgr k)):=by
 refine z14 1 rfl rfl (zqzj [] func316 rfl (by decide+kernel) rfl ?_);have g:((8:Nat):Int)=8:=rfl
 by_cases f:0<=k/\k<8
 ·rcases zry f with rfl|rfl|rfl|rfl|rfl|rfl|rfl|rfl
  all_goals clear f
  all_goals (repeat'(first|refine nxt ?_|((refine zqh fun K c=>?_);simp(disch:=omega)only[go_sem,Z0,↓reduceIte,reduceCtorEq,Z1,ZA,Zu,Zx,g])|(refine zqd _ rfl ?_ ?_<;>intro d<;>(first|(cases d;done)|((try omega))))|refine zqU ?_|(refine c _ ?_;clear c K)))
  all_goals exact z06 rfl (XZ _)
 ·rw[show zgr k=Zg from if_neg f]
  repeat'(first|refine nxt ?_|((refine zqh fun K c=>?_);simp(disch:=omega)only[go_sem,Z0,↓reduceIte])|(refine zqd _ rfl ?_ ?_<;>intro d<;>(first|(cases d;done)|((try simp only[z05]at d);try omega)))|refine zqU ?_|(refine c _ ?_;clear c K)|(refine zqf (fun e=>?_) (fun e=>?_)<;>(have a:=e;try simp only[z05]at a)<;>((first|have b:=eq_false a|have b:=eq_true a);simp(disch:=omega)only[go_sem,Z0,↓reduceIte,b];clear e b;try omega)))
  all_goals exact z06 rfl (XZ _)
def belowL:List (List Int):=[[1,2],[2],[3,4,7],[3,4,7],[5],[6],[],[]]
def z1h(p k:Int):Bool:=if 0<=p/\p<8 then (belowL.getD p.toNat []).any (fun x=>decide (k=x)) else false
theorem pc_IndexI(l:List Int)(u:l.length<=maxLen)(k:Int):PC prog 297 [encI l,.int .i64 k] (.int .i64 (if z1r (fun x=>decide (k=x)) l<l.length then (z1r (fun x=>decide (k=x)) l:Int) else -1)):=by
 unfold maxLen at u;refine z14 1 (by simp only[pureD.pureL,pureD,zpp,Z3]) rfl (zqzj [] func297 rfl (by decide+kernel) rfl ?_)
 repeat'(first|refine nxt ?_|((refine zqh fun K b=>?_);simp(disch:=omega)only[go_sem,Z0,encI])|(refine b _ ?_;clear b K))
 (refine zqL (fun n d=>∃(i:_),n=l.length-i/\d.t 0=encI l/\d.t 1=.int .i64 k/\d.t 7=.int .i64 l.length/\d.t 8=.int .i64 i/\(i<=l.length)/\(∀j,(c:j<i)->(h:j<l.length)->decide (k=l[j])=false)) ?_ ?_);rintro n d ⟨i,rfl,o,p,q,r,v,a⟩;rotate_left
 ·(refine⟨_,0,rfl,?_⟩);simp(disch:=omega)only[go_sem,Z0,true_and,Z9,encI];intro j c;omega
 repeat'(first|((first|refine zqh fun K b=>?_|refine zqr fun K b=>?_);simp(disch:=omega)only[go_sem,Z0,↓reduceIte,reduceCtorEq,Z1,o,p,q,r,encI])|((first|refine zqd _ rfl (fun g=>?_) (fun g=>?_)|refine zqm _ rfl (fun g=>?_) (fun g=>?_))<;>(((try simp only[z05]at g);try omega)))|refine nxt ?_|refine zqz ?_|refine zqU ?_|(refine b _ ?_;clear b K))
 ·refine z1o ?_;have m:=z2j (f:=fun x=>decide (k=x)) (l:=l) (k:=i) (by omega) (fun j c=>a j c (by omega)) (fun h=>decide_eq_true (by assumption));rw[m,if_pos (by omega)]
 ·(refine⟨_,?_,i+1,rfl,?_⟩);rotate_left;simp(disch:=omega)only[go_sem,Z0,o,p,q,r,true_and,Z7,Z6];rotate_left
  ·omega
  ·refine⟨by omega,fun j c h=>?_⟩
   by_cases e:j=i
   ·subst e;exact decide_eq_false (by assumption)
   ·exact a j (by omega) h
 ·refine z1o ?_;have s:i=l.length:=by omega
  subst s;have m:=z2j (f:=fun x=>decide (k=x)) (l:=l) (k:=l.length) (by omega) (fun j c=>a j c (by omega)) (fun h=>by omega);rw[m,if_neg (by omega)]
theorem zrz(l:List Int)(b:l.length<=maxLen)(k:Int):PC prog 242 [encI l,.int .i64 k] (.bool (l.any fun x=>decide (k=x))):=by
 have h:=pc_IndexI l b k;refine z14 1 (by simp only[pureD.pureL,pureD,zpp,Z3]) rfl (zqzj [] func242 rfl (by decide+kernel) rfl ?_)
 repeat'(first|((first|refine zqh fun K a=>?_|refine zqs (h) ?_);simp(disch:=omega)only[go_sem,Z0,↓reduceIte])|refine nxt ?_|refine zqU ?_|(refine a _ ?_;clear a K))
 refine z01 ?_;rw[<-z7e]
 by_cases h:z1r (fun x=>decide (k=x)) l<l.length
 ·rw[if_pos h];simp[h]
 ·rw[if_neg h];simp[h]
theorem zas(p k:Int):PC prog 148 [.int .i64 p,.int .i64 k] (.bool (z1h p k)):=by
 refine z14 1 rfl rfl (zqzj [] func148 rfl (by decide+kernel) rfl ?_);have b:((8:Nat):Int)=8:=rfl
 by_cases g:0<=p/\p<8
 ·have c:=fun l h=>zrz l h k;rcases zry g with rfl|rfl|rfl|rfl|rfl|rfl|rfl|rfl
  all_goals clear g
  ·repeat'(first|((first|refine zqh fun K a=>?_|((refine zqs (PC.le (c [1,2] (by decide)) ?_ ?_) ?_);(focus ((rfl);done));(focus ((repeat'(first|exact trivial|exact XZ _|exact Le.rsl|refine⟨?_,?_⟩));done))));simp(disch:=omega)only[go_sem,Z0,↓reduceIte,reduceCtorEq,Z1,ZA,Zu,Zx,b])|refine nxt ?_|refine zqU ?_|(refine a _ ?_;clear a K))
   exact z01 (by simp[z1h,belowL])
  ·repeat'(first|((first|refine zqh fun K a=>?_|((refine zqs (PC.le (c [2] (by decide)) ?_ ?_) ?_);(focus ((rfl);done));(focus ((repeat'(first|exact trivial|exact XZ _|exact Le.rsl|refine⟨?_,?_⟩));done))));simp(disch:=omega)only[go_sem,Z0,↓reduceIte,reduceCtorEq,Z1,ZA,Zu,Zx,b])|refine nxt ?_|refine zqU ?_|(refine a _ ?_;clear a K))
   exact z01 (by simp[z1h,belowL])
  ·repeat'(first|((first|refine zqh fun K a=>?_|((refine zqs (PC.le (c [3,4,7] (by decide)) ?_ ?_) ?_);(focus ((rfl);done));(focus ((repeat'(first|exact trivial|exact XZ _|exact Le.rsl|refine⟨?_,?_⟩));done))));simp(disch:=omega)only[go_sem,Z0,↓reduceIte,reduceCtorEq,Z1,ZA,Zu,Zx,b])|refine nxt ?_|refine zqU ?_|(refine a _ ?_;clear a K))
   exact z01 (by simp[z1h,belowL])
  ·repeat'(first|((first|refine zqh fun K a=>?_|((refine zqs (PC.le (c [3,4,7] (by decide)) ?_ ?_) ?_);(focus ((rfl);done));(focus ((repeat'(first|exact trivial|exact XZ _|exact Le.rsl|refine⟨?_,?_⟩));done))));simp(disch:=omega)only[go_sem,Z0,↓reduceIte,reduceCtorEq,Z1,ZA,Zu,Zx,b])|refine nxt ?_|refine zqU ?_|(refine a _ ?_;clear a K))
   exact z01 (by simp[z1h,belowL])
  ·repeat'(first|((first|refine zqh fun K a=>?_|((refine zqs (PC.le (c [5] (by decide)) ?_ ?_) ?_);(focus ((rfl);done));(focus ((repeat'(first|exact trivial|exact XZ _|exact Le.rsl|refine⟨?_,?_⟩));done))));simp(disch:=omega)only[go_sem,Z0,↓reduceIte,reduceCtorEq,Z1,ZA,Zu,Zx,b])|refine nxt ?_|refine zqU ?_|(refine a _ ?_;clear a K))
   exact z01 (by simp[z1h,belowL])
  ·repeat'(first|((first|refine zqh fun K a=>?_|((refine zqs (PC.le (c [6] (by decide)) ?_ ?_) ?_);(focus ((rfl);done));(focus ((repeat'(first|exact trivial|exact XZ _|exact Le.rsl|refine⟨?_,?_⟩));done))));simp(disch:=omega)only[go_sem,Z0,↓reduceIte,reduceCtorEq,Z1,ZA,Zu,Zx,b])|refine nxt ?_|refine zqU ?_|(refine a _ ?_;clear a K))
   exact z01 (by simp[z1h,belowL])
  ·repeat'(first|((first|refine zqh fun K a=>?_|((refine zqs (PC.le (c [] (by decide)) ?_ ?_) ?_);(focus ((rfl);done));(focus ((repeat'(first|exact trivial|exact XZ _|exact Le.nil _|refine⟨?_,?_⟩));done))));simp(disch:=omega)only[go_sem,Z0,↓reduceIte,reduceCtorEq,Z1,ZA,Zu,Zx,b])|refine nxt ?_|refine zqU ?_|(refine a _ ?_;clear a K))
   exact z01 (by simp[z1h,belowL])
  ·repeat'(first|((first|refine zqh fun K a=>?_|((refine zqs (PC.le (c [] (by decide)) ?_ ?_) ?_);(focus ((rfl);done));(focus ((repeat'(first|exact trivial|exact XZ _|exact Le.nil _|refine⟨?_,?_⟩));done))));simp(disch:=omega)only[go_sem,Z0,↓reduceIte,reduceCtorEq,Z1,ZA,Zu,Zx,b])|refine nxt ?_|refine zqU ?_|(refine a _ ?_;clear a K))
   exact z01 (by simp[z1h,belowL])
 ·rw[show z1h p k=false from if_neg g]
  repeat'(first|((refine zqh fun K a=>?_);simp(disch:=omega)only[go_sem,Z0,↓reduceIte])|refine nxt ?_|refine zqU ?_|(refine a _ ?_;clear a K)|(refine zqf (fun f=>?_) (fun f=>?_)<;>(have d:=f;try simp only[z05]at d)<;>((first|have e:=eq_false d|have e:=eq_true d);simp(disch:=omega)only[go_sem,Z0,↓reduceIte,reduceCtorEq,e];clear f e;try omega)))
  all_goals exact z01 rfl
namespace Tr
def ze5(l:List Nat):Nat:=l.foldl (fun d x=>max d (1+x)) 0
def depT(t:T):Nat:=zgc (fun _ l=>ze5 l) t
theorem z5w(t:T):depT t=ze5 (t.kids.map depT):=by unfold depT;rw[z3r]
theorem zjw(l:List Nat)(x:Nat):ze5 (l++[x])=max (ze5 l) (1+x):=by unfold ze5;rw[Yw];rfl
theorem depF_le{l:List Nat}:∀(a:Nat),(a<=l.foldl (fun d x=>max d (1+x)) a)/\∀x∈l,1+x<=l.foldl (fun d x=>max d (1+x)) a:=by
 induction l with
 |nil=>intro a;simp
 |cons y l c =>
  intro a;simp only[YF];obtain⟨e,b⟩:=c (max a (1+y));refine⟨by omega,fun x hx=>?_⟩;rcases Zr.1 hx with rfl|hx
  ·omega
  ·exact b x hx
theorem z50{t k:T}(h:k∈t.kids):1+depT k<=depT t:=by
 rw[z5w t];exact(depF_le 0).2 _ (Zz.2 ⟨k,h,rfl⟩)
end Tr
theorem znz:∀t:T,fitB t=true->depT t<=1000000000->PC prog 143 [z0o t] (.int .i64 (depT t)):=by
 refine z4a fun t s c y=>?_;obtain⟨w,x,m,n⟩:=(zbg t).1 c;unfold maxLen at m;refine z14 1 (by simp only[pureD.pureL,z02,Z3]) rfl (zqzj [] func143 rfl (by decide+kernel) rfl ?_)
 repeat'(first|refine nxt ?_|((refine zqh fun K a=>?_);simp(disch:=omega)only[go_sem,Z0,↓reduceIte,reduceCtorEq,Z1])|(refine a _ ?_;clear a K))
 (refine zqL (fun f b=>∃(i:_),f=t.kids.length-i/\b.t 3=.int .i64 (ze5 ((t.kids.take i).map depT):Nat)/\b.t 7=z0l t.kids/\b.t 8=.int .i64 t.kids.length/\b.t 9=.int .i64 i/\(i<=t.kids.length)/\(1<=b.nx)) ?_ ?_);rintro f b ⟨i,rfl,g,j,k,l,u,v⟩;rotate_left
 ·(refine⟨_,0,rfl,?_⟩);simp(disch:=omega)only[go_sem,Z0,Z2,true_and,and_true,and_self,Z9,Zj,z0l]
  rfl
 have d:=fun(h:i<t.kids.length)=>s t.kids[i] (Z5 h) (n _ (Z5 h)) (by have:=z50 (Z5 h);omega);have q:=fun(h:i<t.kids.length)=>z50 (t:=t) (Z5 h);have e:∀h:i<t.kids.length,ze5 ((t.kids.take (i+1)).map depT)=max (ze5 ((t.kids.take i).map depT)) (1+depT t.kids[i]):=fun h=>by
  rw[Z4 h,Zm,Zc,Zj,zjw]
 repeat'(first|((first|refine zqh fun K a=>?_|refine zqr fun K a=>?_|refine zqs (d (by omega)) ?_);simp(disch:=omega)only[go_sem,Z0,↓reduceIte,reduceCtorEq,Z1,Z2,g,j,k,l,z0l])|(refine zqd _ rfl ?_ ?_<;>intro o<;>(((try simp only[z05]at o);try omega)))|refine nxt ?_|refine zqz ?_|refine zqU ?_|(refine a _ ?_;clear a K))
 ·have r:=e (by omega);(refine⟨_,?_,i+1,rfl,?_⟩);rotate_left;simp(disch:=omega)only[go_sem,Z0,Z2,g,j,k,l,true_and,and_true,Z7,Z6,r];rotate_left
  ·omega
  ·have:=q (by omega);refine⟨?_,by omega⟩;rw[zad (by omega)];omega
 ·refine z1o ?_;have p:i=t.kids.length:=by omega
  subst p;rw[Zn,<-z5w]
namespace Tr
def z27(id:Idv)(t:T):List T:=zgc (fun t l=>if t.id=id then [t] else match l.find? (fun w => !w.isEmpty)with
 |some w=>t::w
 |none=>[]) t
theorem zbw(id:Idv)(t:T):z27 id t=if t.id=id then [t] else match (t.kids.map (z27 id)).find? (fun w => !w.isEmpty)with
  |some w=>t::w
  |none=>[]:=by
 unfold z27;rw[z3r]
theorem zjx{α β:Type}(f:α->List β):∀ {l:List α}{i:Nat},(∀j,(c:j<i)->(h:j<l.length)->f l[j]=[])->l.length<=i->(l.map f).find? (fun w => !w.isEmpty)=none
 |[],_,_,_=>rfl
 |x::l,i,h,b=>by
  rw[Zc,Yg];have a:=h 0 (by simp at b;omega) (by simp);simp only[Zt]at a;rw[a];exact zjx f (l:=l) (i:=i-1) (fun j c d=>h (j+1) (by omega) (by simpa using d)) (by simp at b;omega)
theorem zjy{α β:Type}(f:α->List β):∀ {l:List α}{i:Nat}(hi:i<l.length),(∀j,(g:j<i)->(h:j<l.length)->f l[j]=[])->f l[i] ≠ []->(l.map f).find? (fun w => !w.isEmpty)=some (f l[i])
 |x::l,0,_,_,c=>by
  simp only[Zt]at c⊢;rw[Zc,Yg];cases e:f x with
  |nil=>exact(c e).elim
  |cons a b=>rfl
 |x::l,i+1,hi,h,c=>by
  rw[Zc,Yg];have d:=h 0 (by omega) (by simp);simp only[Zt]at d;rw[d];simp only[Yq]at c⊢;exact zjy f (l:=l) (i:=i) (by simpa using hi) (fun j g k=>h (j+1) (by omega) (by simpa using k)) c
end Tr
theorem z4e:∀w:List T,z21 8 (w.map z0o)=some (w.flatMap z08)
 |[]=>rfl
 |t::w=>by
  rw[Zc,Zb];unfold z21;rw[z4e w];simp only[z0o,z5g,z0h,if_true]
theorem z9c(id:Idv):∀t:T,(z27 id t).length<=1+depT t:=by
 refine z4a fun t d=>?_;rw[zbw];split
 ·simp
 ·split
  ·rename_i w c;have b:=Yj c;obtain⟨k,a,rfl⟩:=Zz.1 b;have e:=d k a;have f:=z50 a;simp only[Zd];omega
  ·simp
def zf7(w:List T):D:=if w=[] then .nil else .rsl true 8 (w.map z0o)
theorem zu6(w:List T):pureD (zf7 w)=true:=by
 unfold zf7;split
 ·rfl
 ·simp only[pureD];exact z0x z02 w
theorem le_nn{sz:Nat}{els:List D}(h:els ≠ []):Le (.rsl false sz els) (.rsl true sz els):=fun s v hr=>by
 simp only[rel]at hr⊢;rcases hr with ⟨_,a,_⟩|hr
 ·exact(h a).elim
 ·exact .inr hr
theorem zwl(id:Idv):∀t:T,fitB t=true->depT t<=1000000000->PC prog 59 [z0o t,z0z id] (zf7 (z27 id t)):=by
 refine z4a fun t G s N=>?_;obtain⟨L,M,C,E⟩:=(zbg t).1 s;unfold maxLen at C;refine z14 3 (by simp only[pureD.pureL,z02];rfl) (zu6 _) (zqzj [27] func59 rfl (by decide+kernel) rfl ?_);rw[zbw]
 repeat'(first|refine nxt ?_|((refine zqh fun K c=>?_);simp(disch:=omega)only[go_sem,Z0,↓reduceIte,reduceCtorEq,Z1,Zv,Z2])|(refine zqd _ rfl ?_ ?_<;>intro a<;>(((try simp only[z05]at a);try omega)))|refine zqU ?_|(refine c _ ?_;clear c K))
 ·rw[if_pos (by assumption),zf7,if_neg (by simp)];exact z06 (z0x z02 [t]) (XZ _)
 ·rw[if_neg (by assumption)];(refine zqL (fun A k=>∃(i:_),A=t.kids.length-i/\k.t 2=.ptr 0 0/\k.t 3=.ptr 1 0/\k.t 15=z0l t.kids/\k.t 16=.int .i64 t.kids.length/\k.t 17=.int .i64 i/\k.H 0=some (.box 27 (z08 t))/\k.H 1=some (.box 23 (z0a id))/\(i<=t.kids.length)/\(2<=k.nx)/\(∀j,(z:j<i)->(h:j<t.kids.length)->z27 id t.kids[j]=[])) ?_ ?_);rintro A k ⟨i,rfl,B,y,n,d,g,v,o,I,J,p⟩;rotate_left
  ·(refine⟨_,0,rfl,?_⟩);simp(disch:=omega)only[go_sem,Z0,Z2,true_and,Z9,z0l,z0a];intro j z;omega
  have b:=fun(h:i<t.kids.length)=>G t.kids[i] (Z5 h) (E _ (Z5 h)) (by have:=z50 (Z5 h);omega);have u:=fun(h:i<t.kids.length)=>z9c id t.kids[i];have r:=fun(h:i<t.kids.length)=>z50 (t:=t) (Z5 h)
  by_cases q:∃h:i<t.kids.length,z27 id t.kids[i]=[]
  ·obtain⟨m,q⟩:=q;have b:=b m;rw[q,zf7,if_pos rfl]at b
   repeat'(first|((first|refine zqh fun K c=>?_|refine zqr fun K c=>?_|refine zqs (b) ?_);simp(disch:=omega)only[go_sem,Z0,↓reduceIte,reduceCtorEq,Z1,Z2,y,n,d,g,o,z0l,z0a])|((first|refine zqd _ rfl (fun a=>?_) (fun a=>?_)|refine zqm _ rfl (fun a=>?_) (fun a=>?_))<;>(first|(cases a;done)|((try simp only[z05]at a);try omega)))|refine nxt ?_|(refine c _ ?_;clear c K))
   (refine⟨_,?_,i+1,rfl,?_⟩);rotate_left;simp(disch:=omega)only[go_sem,Z0,Z2,B,y,n,d,g,v,o,true_and,Z7,Z6];rotate_left
   ·omega
   ·refine⟨by omega,by omega,fun j z h=>?_⟩
    by_cases e:j=i
    ·subst e;exact q
    ·exact p j (by omega) h
  ·have b:=fun h=>by
    have:=b h;rw[zf7,if_neg (fun w=>q ⟨h,w⟩)]at this;exact this
   by_cases m:i<t.kids.length
   ·have O:=u m;have r:=r m;have x:z27 id t.kids[i] ≠ []:=fun w=>q ⟨m,w⟩;rw[zjy (z27 id) m p x]
    repeat'(first|((first|refine zqh fun K c=>?_|refine zqs (b m) ?_);simp(disch:=omega)only[go_sem,Z0,↓reduceIte,reduceCtorEq,Z1,Zv,Z2,B,y,n,d,g,v,o,z0l,z0a,z4e])|((first|refine zqd _ rfl (fun a=>?_) (fun a=>?_)|refine zqm _ rfl (fun a=>?_) (fun a=>?_))<;>(first|(cases a;done)|((try simp only[z05]at a);try omega)))|refine nxt ?_|refine zqU ?_|(refine c _ ?_;clear c K))
    have F:zf7 (t::z27 id t.kids[i])=.rsl true 8 ((t::z27 id t.kids[i]).map z0o):=if_neg (List.cons_ne_nil _ _);simp only[F];simp(disch:=omega)only[go_sem,Z0,Y0 1];refine⟨_,z2b (l:=t::z27 id t.kids[i]) (f:=z08) 1 ?_ z0p z35 z0h z04,le_nn (by simp)⟩;simp(disch:=omega)only[go_sem];rw[ZI,Zb]
   ·rw[zjx (z27 id) p (by omega)]
    repeat'(first|((refine zqh fun K c=>?_);simp(disch:=omega)only[go_sem,Z0,↓reduceIte,d,g])|(refine zqd _ rfl ?_ ?_<;>intro a<;>(((try simp only[z05]at a);try omega)))|refine nxt ?_|refine zqz ?_|refine zqU ?_|(refine c _ ?_;clear c K))
    exact z06 rfl (XZ _)
theorem PC_nn{P:Program}{f:FuncId}{sz:Nat}{els ds:List D}{r:D}(h:els=[]->PC P f (.nil::ds) r)(a:PC P f (.rsl true sz els::ds) r):PC P f (.rsl false sz els::ds) r:=by
 refine⟨?_,a.2.1,a.2.2.1,fun s w j b c d e=>?_⟩
 ·have:=a.1
  simpa only[pureD.pureL,pureD] using this
 ·simp only[relAll,rel]at e;obtain⟨v,q,rfl,hv,g⟩:=e;rcases hv with ⟨_,i,rfl⟩|hv
  ·exact(h i).2.2.2 s w _ b c d (z0y (by simp only[rel]) g)
  ·exact a.2.2.2 s w _ b c d (z0y (by simp only[rel];exact .inr hv) g)
theorem z1a:∀l:List Wd,z21 4 (l.map z9i)=some (l.flatMap z1p)
 |[]=>rfl
 |t::w=>by
  rw[Zc,Zb];unfold z21;rw[z1a w]
  rfl
theorem zs5(l:List Wd):pureD.pureL (l.flatMap z1p)=true:=z1z (fun _=>rfl) l
theorem z6s(l:List Wd):z23 true 4 l.length (l.flatMap z1p)=l.map z9i:=zcw (f:=z1p) (sz:=4) (fun _=>rfl) l
theorem z7l(l:List Wd)(e:l.length<=1000000000000):PC prog 73 [z0f l] (z0f l):=by
  refine PC_nn (fun d=>?_) ?_
  · refine z14 2 rfl (z0g l) (zqzj [1000005,1000007] func73 rfl (by decide+kernel) rfl ?_)
    repeat'(first|refine nxt ?_|((refine zqh fun K a=>?_);simp(disch:=omega)only[go_sem,Z0,↓reduceIte])|(refine zqd _ rfl ?_ ?_<;>intro b<;>(first|(cases b;done)|((try omega))))|refine zqU ?_|(refine a _ ?_;clear a K))
    exact z06 rfl (by have c:z0f l=.rsl false 4 []:=by unfold z0f;rw[d]
                      rw[c];exact Le.nil 4)
  · refine z14 2 (by simp only[pureD.pureL,pureD,z0x (f:=z9i) (fun _=>rfl) l,Z3]) (z0g l) (zqzj [1000005,1000007] func73 rfl (by decide+kernel) rfl ?_)
    repeat'(first|refine nxt ?_|((refine zqh fun K a=>?_);simp(disch:=omega)only[go_sem,Z0,↓reduceIte,reduceCtorEq,Z1,Zv,z1a,zs5,z6s])|(refine zqd _ rfl ?_ ?_<;>intro b<;>(first|(cases b;done)|((try omega))))|refine zqU ?_|(refine a _ ?_;clear a K))
    exact z06 (z0g l) (XZ _)
namespace Tr
def smB(t:T):Bool:=zgc (fun t l=>decide (t.head.length<=1000000)&&(decide (t.words.length<=1000000)&&(decide (t.kids.length<=1000000)&&l.all id))) t
theorem zs6(t:T):smB t=true ↔ t.head.length<=1000000/\t.words.length<=1000000/\t.kids.length<=1000000/\∀k∈t.kids,smB k=true:=by
 unfold smB;rw[z3r];simp only[ZS,Zf,decide_eq_true_iff,ZB]
 rfl
theorem zs7:∀t:T,smB t=true->fitB t=true:=by
 refine z4a fun t c h=>?_;obtain⟨d,e,f,b⟩:=(zs6 t).1 h;exact(zbg t).2 ⟨by unfold maxLen;omega,by unfold maxLen;omega,by unfold maxLen;omega,fun k a=>c k a (b k a)⟩
end Tr
theorem pc_copied:∀t:T,smB t=true->PC prog 60 [z0o t] (z0o t):=by
 refine z4a fun t B e=>?_;obtain⟨F,G,I,y⟩:=(zs6 t).1 e;have p:=z7l t.head (by omega);have q:=z7l t.words (by omega);refine z14 4 (by simp only[pureD.pureL,z02,Z3]) (z02 _) (zqzj [3] func60 rfl (by decide+kernel) rfl ?_);rw[show Tryz.f60.results.toList=[.cell 2 27] from rfl];rw[z0o,z0n]
 repeat'(first|refine nxt ?_|((first|refine zqh fun K c=>?_|refine zqe (by decide+kernel) fun K c=>?_|refine zqt (p) ?_|refine zqt (q) ?_);simp(disch:=omega)only[go_sem,Z0,↓reduceIte,reduceCtorEq,Z1])|(refine c _ ?_;clear c K))
 (refine zqL (fun v a=>∃(i:_),v=t.kids.length-i/\a.t 1=.ptr 0 0/\a.t 2=.ptr 1 0/\a.t 3=.osl 2 i/\a.t 15=z0l t.kids/\a.t 16=.int .i64 t.kids.length/\a.t 17=.int .i64 i/\a.H 2=some (.row 27 i ((t.kids.take i).flatMap z08))/\a.H 0=some (.box 27 [.int .i64 t.id.act,.int .i64 t.id.item,.int .i64 t.id.n,.int .i64 t.kind,.str t.label,z0f t.head,z0f t.words,z0l t.kids])/\a.H 1=some (.box 27 [.int .i64 0,.int .i64 0,.int .i64 0,.int .i64 0,.str Zg,.nil,.nil,.nil])/\(i<=t.kids.length)/\(3<=a.nx)) ?_ ?_);rintro v a ⟨i,rfl,w,u,x,g,j,m,b,o,d,C,E⟩;rotate_left
 ·(refine⟨_,0,rfl,?_⟩);simp(disch:=omega)only[go_sem,Z0,Z2,true_and,and_true,and_self,Z9,Zo,z0l]
  all_goals rfl
 have r:=fun(h:i<t.kids.length)=>B t.kids[i] (Z5 h) (y _ (Z5 h))
 repeat'(first|((first|refine zqh fun K c=>?_|refine zqr fun K c=>?_|refine zqs (r (by omega)) ?_);simp(disch:=omega)only[go_sem,Z0,↓reduceIte,reduceCtorEq,Z1,Zv,Z2,ZP,w,u,x,g,j,m,b,o,d,z0l])|(refine zqd _ rfl ?_ ?_<;>intro z<;>(((try simp only[z05]at z);try omega)))|refine nxt ?_|refine zqz ?_|refine zqu (by(simp(disch:=omega)only[go_sem,Z0,↓reduceIte,Z1,Z2,u,d]);rfl) rfl ?_|(refine c _ ?_;clear c K))
 ·have s:=Z4 (l:=t.kids) (i:=i) (by omega);(refine⟨_,?_,i+1,rfl,?_⟩);rotate_left;simp(disch:=omega)only[go_sem,Z0,Z2,w,u,x,g,j,m,b,o,d,true_and,Z7,Z6,Zi,Zb,Zo,ZI,s];rotate_left
  all_goals omega
 have A:i=t.kids.length:=by omega
 subst A;rw[Zn]at b;refine z3j (z6j (k:=3) (by simp[pureD.pureL,pureD]) ?_);simp only[z0l];refine z00 (z0e 2 rfl) (z00 (z0e 2 rfl) (z00 (z0e 2 rfl) (z00 (z0e 2 rfl) (z00 (z0e 2 rfl) (z00 (z0e 2 (z0g _)) (z00 (z0e 2 (z0g _)) (z00 ?_ z0i)))))));refine z2b (f:=z08) (l:=t.kids) 1 ?_ z0p z35 z0h z04;simp(disch:=omega)only[go_sem,Z0,b]
namespace Tr
def szB(t:T):Bool:=zgc (fun t l=>decide (t.label.size<=1000000)&&(decide (t.head.length<=1000000)&&((t.head.all fun w=>decide (w.text.size<=1000000))&&(decide (t.words.length<=1000000)&&((t.words.all fun w=>decide (w.text.size<=1000000))&&(decide (t.kids.length<=1000000)&&l.all id)))))) t
theorem z1k(t:T):szB t=true ↔ t.label.size<=1000000/\t.head.length<=1000000/\(∀w∈t.head,w.text.size<=1000000)/\t.words.length<=1000000/\(∀w∈t.words,w.text.size<=1000000)/\t.kids.length<=1000000/\∀k∈t.kids,szB k=true:=by
 unfold szB;rw[z3r];simp only[ZS,Zf,decide_eq_true_iff,ZB]
 rfl
theorem z7o:∀t:T,szB t=true->smB t=true:=by
 refine z4a fun t f h=>?_;obtain⟨_,b,_,c,_,d,e⟩:=(z1k t).1 h;exact(zs6 t).2 ⟨b,c,d,fun k a=>f k a (e k a)⟩
theorem zbx(t:T)(h:szB t=true):fitB t=true:=zs7 t (z7o t h)
def z3h:ByteArray:=⟨#[]⟩
def z3l(t:T):Bool:=decide (0<=t.kind/\t.kind<=7)&&(decide (t.kids.length<=64)&&(zdc t.head&&(zdc t.words&&(if t.kind=0 then decide (t.label=z3h)&&(decide (t.head.length=0)&&decide (t.words.length=0)) else z3x t.label))))
def z5r(t:T):Int×ByteArray:=(t.kind,t.label)
def z3m(t:T):Bool:=zgc (fun t l=>z3l t&&((t.kids.all fun k=>z1h t.kind k.kind)&&(l.all id&&decide ((t.kids.map z5r).Nodup)))) t
theorem z42(t:T):z3m t=(z3l t&&((t.kids.all fun k=>z1h t.kind k.kind)&&(t.kids.all z3m&&decide ((t.kids.map z5r).Nodup)))):=by
 unfold z3m;rw[z3r,ZS];rfl
theorem zd5{α β:Type}{f:α->β}{l:List α}{k:Nat}(i:k<l.length)(h:((l.take k).map f).Nodup)(e:∀j,(d:j<k)->f (l[j]'(by omega))≠f l[k]):((l.take (k+1)).map f).Nodup:=by
 rw[Z4 i,Zm,ZV];refine⟨h,by simp,fun a g b c=>?_⟩;simp only[Zc,Zj,ZG]at c;subst c;obtain⟨x,m,rfl⟩:=Zz.1 g;obtain⟨j,d,rfl⟩:=Y5 m;rw[ZZ]at d;rw[Ya];exact e j (by omega)
theorem zib{α β:Type}{f:α->β}{l:List α}{j k:Nat}(b:j<k)(c:k<l.length)(h:f (l[j]'(by omega))=f l[k]):¬(l.map f).Nodup:=fun d=>by
 have a:=(List.pairwise_iff_getElem.1 d) j k (by simp;omega) (by simpa using c) b;simp only[YC]at a;exact a h
end Tr
theorem pc_Nests(p k:Int):PC prog 134 [.int .i64 p,.int .i64 k] (.bool (z1h p k)):=by
 refine z14 1 rfl rfl (zqzj [] func134 rfl (by decide+kernel) rfl ?_)
 by_cases f:0<=p/\p<8
 ·rcases zry f with rfl|rfl|rfl|rfl|rfl|rfl|rfl|rfl
  all_goals clear f
  all_goals (repeat'(first|refine nxt ?_|((refine zqh fun K d=>?_);simp(disch:=omega)only[go_sem,Z0,↓reduceIte,Int.reduceEq])|((first|refine zqd _ rfl (fun a=>?_) (fun a=>?_)|refine zqm _ rfl (fun a=>?_) (fun a=>?_))<;>(first|(cases a;done)|((try omega))))|refine zqU ?_|(refine d _ ?_;clear d K)|(refine zqf (fun e=>?_) (fun e=>?_)<;>(have b:=e;try simp only[z05]at b)<;>((first|have c:=eq_false b|have c:=eq_true b);simp(disch:=omega)only[go_sem,Z0,↓reduceIte,c];clear e c;try omega))))
  all_goals refine z01 ?_
  all_goals (simp_all [z1h,belowL];done)
 ·rw[show z1h p k=false from if_neg f]
  repeat'(first|refine nxt ?_|((refine zqh fun K d=>?_);simp(disch:=omega)only[go_sem,Z0,↓reduceIte])|((first|refine zqd _ rfl (fun a=>?_) (fun a=>?_)|refine zqm _ rfl (fun a=>?_) (fun a=>?_))<;>(((try simp only[z05]at a);try omega)))|refine zqU ?_|(refine d _ ?_;clear d K))
  all_goals exact z01 rfl
theorem pc_aloneR(t:T)(k:szB t=true):PC prog 133 [z0o t] (.bool (z3l t)):=by
 obtain⟨o,i,g,j,h,p,_⟩:=(z1k t).1 k;have l:=pc_rowR t.head i (fun w d=>by have:=g w d;unfold maxLen;omega);have m:=pc_rowR t.words j (fun w d=>by have:=h w d;unfold maxLen;omega);have n:=zhy t.label (by unfold maxLen;omega);refine z14 1 (by simp only[pureD.pureL,z02,Z3]) rfl (zqzj [] func133 rfl (by decide+kernel) rfl ?_)
 repeat'(first|refine nxt ?_|((first|refine zqh fun K e=>?_|refine zqs (l) ?_|refine zqs (m) ?_|refine zqs (n) ?_);simp(disch:=omega)only[go_sem,Z0,↓reduceIte,reduceCtorEq,Z1])|(refine zqd _ rfl ?_ ?_<;>intro f<;>(first|(cases f;done)|((try simp only[z05]at f);try omega)))|refine zqU ?_|(refine e _ ?_;clear e K)|(refine zqf (fun c=>?_) (fun c=>?_)<;>(have a:=c;try simp only[z05]at a)<;>((first|have b:(_:Bool)=_:=a|have b:=eq_false a|have b:=eq_true a);simp(disch:=omega)only[go_sem,Z0,↓reduceIte,reduceCtorEq,Z1,b,z0f,z0l];clear c b;try omega)))
 all_goals refine z01 ?_
 all_goals unfold z3l
 all_goals first
  |(rw[decide_eq_false (by omega)];rfl)
  |(rw[decide_eq_true (by omega),decide_eq_false (by omega)];rfl)
  |(rw[decide_eq_true (by omega),decide_eq_true (by omega)];simp_all [z3h];done)
  |(rw[decide_eq_true (show 0<=t.kind/\t.kind<=7 by omega),decide_eq_true (show t.kids.length<=64 by omega)];simp_all [z3h];done)
  |skip
theorem pc_Right:∀t:T,szB t=true->PC prog 69 [z0o t] (.bool (z3m t)):=by
 refine z4a fun t M G=>?_;have J:=pc_aloneR t G;obtain⟨W,X,R,r,U,Y,I⟩:=(z1k t).1 G;rw[z42];refine z14 1 (by simp only[pureD.pureL,z02,Z3]) rfl (zqzj [] func69 rfl (by decide+kernel) rfl ?_)
 repeat'(first|refine nxt ?_|((first|refine zqh fun K d=>?_|refine zqs (J) ?_);simp(disch:=omega)only[go_sem,Z0,↓reduceIte,Z1,Z2])|(refine zqd _ rfl ?_ ?_<;>intro m<;>(((try simp only[z05]at m);try omega)))|refine zqU ?_|(refine d _ ?_;clear d K))
 ·exact z01 (by simp_all)
 rw[‹z3l t=true›,Zh];(refine zqL (fun s c=>∃(i:_),s=t.kids.length-i/\c.t 1=.ptr 0 0/\c.t 3=.int .i64 i/\c.H 0=some (.box 27 (z08 t))/\(i<=t.kids.length)/\(1<=c.nx)/\((t.kids.take i).all (fun k=>z1h t.kind k.kind)=true)/\((t.kids.take i).all z3m=true)/\(((t.kids.take i).map z5r).Nodup)) ?_ ?_);rintro s c ⟨i,rfl,C,E,o,N,O,u,v,p⟩;rotate_left
 ·(refine⟨_,0,rfl,?_⟩);simp(disch:=omega)only[go_sem,Z0,Z2,true_and,Z9,Zj]
  all_goals simp
 have A:=fun(h:i<t.kids.length)=>M t.kids[i] (Z5 h) (I _ (Z5 h));have L:=fun(h:i<t.kids.length)=>pc_Nests t.kind t.kids[i].kind
 repeat'(first|refine nxt ?_|((first|refine zqh fun K d=>?_|refine zqe (by decide+kernel) fun K d=>?_|refine zqt (L (by omega)) ?_|refine zqt (A (by omega)) ?_);simp(disch:=omega)only[go_sem,Z0,↓reduceIte,reduceCtorEq,Z1,C,E,o,z0l])|(refine zqd _ rfl ?_ ?_<;>intro m<;>(first|(cases m;done)|((try simp only[z05]at m);try omega)))|refine zqz ?_|refine zqU ?_|(refine d _ ?_;clear d K)|(refine zqf (fun n=>?_) (fun n=>?_)<;>(have a:=n;try simp only[z05]at a)<;>((have b:(_:Bool)=_:=a);simp(disch:=omega)only[go_sem,Z0,↓reduceIte,reduceCtorEq,Z1,b,C,E,o,z0l];clear n b;try omega)))
 ·exact z01 (by rw[z5q (f:=z3m) (k:=i) (by omega) (by assumption),Zw,ZC])
 ·(refine zqL (fun s c=>∃(k:_),s=i-k/\c.t 1=.ptr 0 0/\c.t 3=.int .i64 i/\c.t 4=.int .i64 k/\c.H 0=some (.box 27 (z08 t))/\(k<=i)/\(1<=c.nx)/\(∀j,(y:j<k)->(h:j<t.kids.length)->(r:i<t.kids.length)->z5r t.kids[j]≠z5r t.kids[i])) ?_ ?_);rintro s c ⟨k,rfl,w,x,z,g,P,Q,q⟩;rotate_left
  ·(refine⟨_,0,rfl,?_⟩);simp(disch:=omega)only[go_sem,Z0,C,E,o,true_and,Z9];exact⟨by omega,fun j y=>by omega⟩
  repeat'(first|refine nxt ?_|((first|refine zqh fun K d=>?_|refine zqe (by decide+kernel) fun K d=>?_|refine zqr fun K d=>?_);simp(disch:=omega)only[go_sem,Z0,↓reduceIte,reduceCtorEq,Z1,w,x,z,g,z0l])|((first|refine zqd _ rfl (fun m=>?_) (fun m=>?_)|refine zqm _ rfl (fun m=>?_) (fun m=>?_))<;>(first|(cases m;done)|((try simp only[z05]at m);try omega)))|refine zqz ?_|refine zqU ?_|(refine d _ ?_;clear d K)|(refine zqf (fun n=>?_) (fun n=>?_)<;>(have a:=n;try simp only[z05]at a)<;>((first|have b:=eq_false a|have b:=eq_true a);simp(disch:=omega)only[go_sem,Z0,↓reduceIte,reduceCtorEq,Z1,b,w,x,z,g,z0l];clear n b;try omega)))
  ·refine z01 ?_;have B:=zib (f:=z5r) (l:=t.kids) (j:=k) (k:=i) (by omega) (by omega) (by unfold z5r;rw[‹t.kids[k].kind=t.kids[i].kind›,‹t.kids[k].label=t.kids[i].label›]);rw[decide_eq_false B,ZC,ZC]
  ·(refine⟨_,?_,k+1,rfl,?_⟩);rotate_left;simp(disch:=omega)only[go_sem,Z0,w,x,z,g,true_and,Z7,Z6];rotate_left
   ·omega
   ·refine⟨by omega,by omega,fun j y h r=>?_⟩
    by_cases e:j=k
    ·subst e;exact fun h=>absurd (congrArg Prod.snd h) (by assumption)
    ·exact q j (by omega) h r
  ·(refine⟨_,?_,k+1,rfl,?_⟩);rotate_left;simp(disch:=omega)only[go_sem,Z0,w,x,z,g,true_and,Z7,Z6];rotate_left
   ·omega
   ·refine⟨by omega,by omega,fun j y h r=>?_⟩
    by_cases e:j=k
    ·subst e;exact fun h=>absurd (congrArg Prod.fst h) (by assumption)
    ·exact q j (by omega) h r
  ·skip
   have F:i<t.kids.length:=by omega
   (refine⟨_,?_,i+1,rfl,?_⟩);rotate_left;simp(disch:=omega)only[go_sem,Z0,true_and,Z7,Z6,w,x,g];rotate_left
   ·omega
   ·exact⟨by omega,by omega,z3d (by omega) u (by assumption),z3d (by omega) v (by assumption),zd5 F p (fun j y=>q j (by omega) (by omega) F)⟩
 ·exact z01 (by rw[z5q (f:=fun k:T=>z1h t.kind k.kind) (k:=i) (by omega) (by assumption),Zw])
 ·refine z01 ?_;rw[z3p (by omega) u,z3p (by omega) v];rw[Za (by omega)]at p;rw[decide_eq_true p];rfl
namespace Tr
theorem z4f(t:T):cntT t=1+(t.kids.flatMap z0c).length:=by unfold cntT;rw[z1l,Zd,Y0]
theorem z4g(l:List T)(i:Nat):((l.take i).flatMap z0c).length<=(l.flatMap z0c).length:=by
 have:l.flatMap z0c=(l.take i).flatMap z0c++(l.drop i).flatMap z0c:=by rw[<-Zi,ZJ]
 rw[this,Zq];omega
theorem z6n(l:List T)(i:Nat)(h:i<l.length):((l.take (i+1)).flatMap z0c).length=((l.take i).flatMap z0c).length+cntT l[i]:=by
 rw[Z4 h,Zi,Zq];simp[cntT]
theorem zby{t k:T}(h:k∈t.kids):1+cntT k<=cntT t:=by
 rw[z4f t];obtain⟨i,a,rfl⟩:=Y5 h;have b:=z6n t.kids i a;have c:=z4g t.kids (i+1);omega
theorem zk0(t:T):1<=cntT t:=by rw[z4f];omega
theorem z1c(t:T):idsT t=t.id::t.kids.flatMap idsT:=by
 unfold idsT;rw[z1l,Zc,List.map_flatMap]
theorem z3q(t:T):(idsT t).length=cntT t:=by unfold idsT cntT;rw[Yf]
def idsB(t:T):Bool:=(idsT t).all (fun i=>decide (i=Idv.zero)) ||(decide ((t.id=Idv.zero) ↔ (t.kind=0))&&decide ((idsT t).Nodup))
def z6y(t:T):Bool:=z3m t&&(decide (depT t<=8)&&(decide (cntT t<=1024)&&idsB t))
end Tr
theorem zre:∀t:T,szB t=true->cntT t<=1000000000->PC prog 12 [z0o t] (.int .i64 (cntT t)):=by
 refine z4a fun t q p g=>?_;obtain⟨w,x,u,y,v,z,n⟩:=(z1k t).1 p;have e:=z4f t;refine z14 1 (by simp only[pureD.pureL,z02,Z3]) rfl (zqzj [] func12 rfl (by decide+kernel) rfl ?_)
 repeat'(first|refine nxt ?_|((refine zqh fun K b=>?_);simp(disch:=omega)only[go_sem])|(refine b _ ?_;clear b K))
 (refine zqL (fun j c=>∃(i:_),j=t.kids.length-i/\c.t 1=.ptr 0 0/\c.t 3=.int .i64 (1+((t.kids.take i).flatMap z0c).length:Nat)/\c.t 4=.int .i64 i/\c.H 0=some (.box 27 (z08 t))/\(i<=t.kids.length)/\(1<=c.nx)) ?_ ?_);rintro j c ⟨i,rfl,k,l,m,d,r,s⟩;rotate_left
 ·(refine⟨_,0,rfl,?_⟩);simp(disch:=omega)only[go_sem,Z0,Z2,and_self,Z6,Z9,Zo]
  try simp
 have f:=fun(h:i<t.kids.length)=>q t.kids[i] (Z5 h) (n _ (Z5 h)) (by have:=zby (Z5 h);omega);have A:=z4g t.kids (i+1);have a:=fun(h:i<t.kids.length)=>z6n t.kids i h
 repeat'(first|refine nxt ?_|((first|refine zqh fun K b=>?_|refine zqr fun K b=>?_|refine zqs (f (by omega)) ?_);simp(disch:=omega)only[go_sem,Z0,↓reduceIte,reduceCtorEq,Z1,k,l,m,d,z0l])|(refine zqd _ rfl ?_ ?_<;>intro g<;>(((try simp only[z05]at g);try omega)))|refine zqz ?_|refine zqU ?_|(refine b _ ?_;clear b K))
 ·have a:=a (by omega);(refine⟨_,?_,i+1,rfl,?_⟩);rotate_left;simp(disch:=omega)only[go_sem,Z0,k,l,m,d,true_and,Z7,Z6,a];rotate_left
  ·omega
  ·exact⟨by omega,by omega,by omega⟩
 ·have o:i=t.kids.length:=by omega
  subst o;refine z1o ?_;rw[Zn,e]
theorem pc_DepthR:∀t:T,szB t=true->depT t<=1000000000->PC prog 70 [z0o t] (.int .i64 (depT t)):=by
 refine z4a fun t q e A=>?_;obtain⟨w,x,u,y,v,z,m⟩:=(z1k t).1 e;refine z14 1 (by simp only[pureD.pureL,z02,Z3]) rfl (zqzj [] func70 rfl (by decide+kernel) rfl ?_)
 repeat'(first|refine nxt ?_|((refine zqh fun K a=>?_);simp(disch:=omega)only[go_sem])|(refine a _ ?_;clear a K))
 (refine zqL (fun g b=>∃(i:_),g=t.kids.length-i/\b.t 1=.ptr 0 0/\b.t 3=.int .i64 (ze5 ((t.kids.take i).map depT):Nat)/\b.t 4=.int .i64 i/\b.H 0=some (.box 27 (z08 t))/\(i<=t.kids.length)/\(1<=b.nx)) ?_ ?_);rintro g b ⟨i,rfl,j,k,l,c,r,s⟩;rotate_left
 ·(refine⟨_,0,rfl,?_⟩);simp(disch:=omega)only[go_sem,Z0,Z2,true_and,and_true,and_self,Z9,Zj]
  rfl
 have d:=fun(h:i<t.kids.length)=>q t.kids[i] (Z5 h) (m _ (Z5 h)) (by have:=z50 (Z5 h);omega);have p:=fun(h:i<t.kids.length)=>z50 (t:=t) (Z5 h);have f:∀h:i<t.kids.length,ze5 ((t.kids.take (i+1)).map depT)=max (ze5 ((t.kids.take i).map depT)) (1+depT t.kids[i]):=fun h=>by
  rw[Z4 h,Zm,Zc,Zj,zjw]
 repeat'(first|refine nxt ?_|((first|refine zqh fun K a=>?_|refine zqr fun K a=>?_|refine zqs (d (by omega)) ?_);simp(disch:=omega)only[go_sem,Z0,↓reduceIte,reduceCtorEq,Z1,j,k,l,c,z0l])|(refine zqd _ rfl ?_ ?_<;>intro n<;>(((try simp only[z05]at n);try omega)))|refine zqz ?_|refine zqU ?_|(refine a _ ?_;clear a K))
 ·have e:=f (by omega);(refine⟨_,?_,i+1,rfl,?_⟩);rotate_left;simp(disch:=omega)only[go_sem,Z0,j,k,l,c,true_and,Z7,Z6,e];rotate_left
  ·omega
  ·have:=p (by omega);refine⟨?_,by omega⟩;rw[zad (by omega)];omega
 ·refine z1o ?_;have o:i=t.kids.length:=by omega
  subst o;rw[Zn,<-z5w]
theorem zdi:∀l:List Idv,z21 3 (l.map z0z)=some (l.flatMap z0a)
 |[]=>rfl
 |t::w=>by
  rw[Zc,Zb];unfold z21;rw[zdi w]
  rfl
theorem pc_All:∀t:T,szB t=true->cntT t<=1000000000->PC prog 135 [z0o t] (z2k (idsT t)):=by
 refine z4a fun t x w g=>?_;obtain⟨C,E,A,F,B,G,v⟩:=(z1k t).1 w;have j:=z4f t;have f:=z3q t;refine z14 2 (by simp only[pureD.pureL,z02,Z3]) (z68 _) (zqzj [7] func135 rfl (by decide+kernel) rfl ?_)
 repeat'(first|refine nxt ?_|((refine zqh fun K b=>?_);simp(disch:=omega)only[go_sem,Z0,↓reduceIte,reduceCtorEq,Z1,Zv,Z2])|(refine b _ ?_;clear b K))
 (refine zqL (fun u d=>∃(i:_),u=t.kids.length-i/\d.t 1=.ptr 0 0/\d.t 3=.osl 1 (1+((t.kids.take i).flatMap z0c).length)/\d.t 4=.int .i64 i/\d.H 0=some (.box 27 (z08 t))/\d.H 1=some (.row 23 (1+((t.kids.take i).flatMap z0c).length) (([t.id]++(t.kids.take i).flatMap idsT).flatMap z0a))/\(i<=t.kids.length)/\(2<=d.nx)) ?_ ?_);rintro u d ⟨i,rfl,q,r,s,c,a,y,z⟩;rotate_left
 ·(refine⟨_,0,rfl,?_⟩);simp(disch:=omega)only[go_sem,Z0,Z2,true_and,and_true,and_self,Z9,Zo,ZI]
  try simp[z0a]
 have n:=fun(h:i<t.kids.length)=>x t.kids[i] (Z5 h) (v _ (Z5 h)) (by have:=zby (Z5 h);omega);have I:=z4g t.kids (i+1)
 by_cases k:i<t.kids.length
 ·have o:=z6n t.kids i k;have m:=z3q t.kids[i];have p:(t.kids.take (i+1)).flatMap idsT=(t.kids.take i).flatMap idsT++idsT t.kids[i]:=by
   rw[Z4 k,Zi];simp
  repeat'(first|refine nxt ?_|((first|refine zqh fun K b=>?_|refine zqr fun K b=>?_|refine zqs (n k) ?_);simp(disch:=omega)only[go_sem,Z0,↓reduceIte,reduceCtorEq,Z1,q,r,s,c,a,z0l,z2k,zdi])|(refine zqd _ rfl ?_ ?_<;>intro g<;>(((try simp only[z05]at g);try omega)))|(refine b _ ?_;clear b K))
  (refine⟨_,?_,i+1,rfl,?_⟩);rotate_left;simp(disch:=omega)only[go_sem,Z0,q,r,s,c,a,true_and,Z7,Z6,Zi,Zb,ZX,Y4,o,p,m,Yk,List.append_assoc];rotate_left
  ·omega
  ·omega
 ·repeat'(first|refine nxt ?_|((refine zqh fun K b=>?_);simp(disch:=omega)only[go_sem,Z0,↓reduceIte,reduceCtorEq,Z1,q,r,s,c,z0l])|(refine zqd _ rfl ?_ ?_<;>intro g<;>(((try simp only[z05]at g);try omega)))|refine zqz ?_|refine zqU ?_|(refine b _ ?_;clear b K))
  have l:i=t.kids.length:=by omega
  subst l;rw[Zn]at a;have e:1+(t.kids.flatMap z0c).length=(idsT t).length:=by rw[f,j]
  rw[e,List.singleton_append,<-z1c]at a;rw[Zn,e];refine z3j (z2b 0 ?_ z25 ze7 (fun _=>rfl) (fun _=>rfl));simp(disch:=omega)only[go_sem,a]
namespace Tr
theorem zfn{α:Type}(f:α->Bool){l:List α}{k:Nat}(h:k<l.length):(l.take (k+1)).all f=((l.take k).all f&&f l[k]):=by
 rw[Z4 h,YE,ZM,List.all_nil,Y6]
theorem zut {α:Type}{l:List α}{k:Nat}(b:k<l.length)(h:(l.take k).Nodup)(a:∀j,(c:j<k)->l[j]'(by omega)≠l[k]):(l.take (k+1)).Nodup:=by
 have:=zd5 (f:=id) b (by simpa using h) a
 simpa using this
theorem nodup_no' {α:Type}{l:List α}{j k:Nat}(a:j<k)(b:k<l.length)(h:l[j]'(by omega)=l[k]):¬l.Nodup:=fun c=>by
 have:=zib (f:=id) a b h;simp at this;exact this c
end Tr
theorem pc_IdsR(t:T)(R:szB t=true)(f:cntT t<=1000000000):PC prog 71 [z0o t] (.bool (idsB t)):=by
 have Q:=pc_All t R f;have hl:=z3q t;have hp:=zk0 t;have r:∀h,(idsT t)[YA 0]'h=t.id:=fun h=>by simp[z1c]
 refine z14 1 (by simp only[pureD.pureL,z02,Z3]) rfl (zqzj [] func71 rfl (by decide+kernel) rfl ?_)
 repeat'(first|refine nxt ?_|((first|refine zqh fun K d=>?_|refine zqs (Q) ?_);simp(disch:=omega)only[go_sem,Z0,↓reduceIte,Z1,Z2])|(refine d _ ?_;clear d K))
 (refine zqL (fun n c=>∃(i:_),n=(idsT t).length-i/\c.t 1=.ptr 0 0/\c.t 3=z2k (idsT t)/\c.t 4=.bool (((idsT t).take i).all fun i=>decide (i=Idv.zero))/\c.t 5=.int .i64 i/\c.H 0=some (.box 27 (z08 t))/\(i<=(idsT t).length)/\(1<=c.nx)) ?_ ?_);rintro n c ⟨i,rfl,y,u,E,z,g,U,W⟩;rotate_left
 ·(refine⟨_,0,rfl,?_⟩);simp(disch:=omega)only[go_sem,Z0,Z2,true_and,and_true,and_self,Z9,z2k]
  try simp
 repeat'(first|refine nxt ?_|((first|refine zqh fun K d=>?_|refine zqe (by decide+kernel) fun K d=>?_|refine zqr fun K d=>?_);simp(disch:=omega)only[go_sem,Z0,↓reduceIte,reduceCtorEq,Z1,y,u,E,z,g,z2k,r])|(refine zqd _ rfl ?_ ?_<;>intro f<;>(((try simp only[z05]at f);try omega)))|refine zqz ?_|refine zqU ?_|(refine d _ ?_;clear d K)|(refine zqf (fun x=>?_) (fun x=>?_)<;>(have p:=x;try simp only[z05]at p)<;>((have A:(_:Bool)=_:=p);simp(disch:=omega)only[go_sem,Z0,↓reduceIte,reduceCtorEq,Z1,x,u,z,z2k];clear x A;try omega)))
 ·(refine⟨_,?_,i+1,rfl,?_⟩);rotate_left;simp(disch:=omega)only[go_sem,Z0,y,u,E,z,g,true_and,Z7,Z6];rotate_left
  ·omega
  ·rw[zfn _ (by omega),‹((idsT t).take i).all _=true›];exact⟨rfl,by omega,by omega⟩
 ·(refine⟨_,?_,i+1,rfl,?_⟩);rotate_left;simp(disch:=omega)only[go_sem,Z0,y,u,E,z,g,true_and,Z7,Z6];rotate_left
  ·omega
  ·rw[zfn _ (by omega),‹((idsT t).take i).all _=false›];exact⟨rfl,by omega,by omega⟩
 ·refine z01 ?_;have s:((idsT t).all fun i=>decide (i=Idv.zero))=true:=by rw[<-Za (l:=idsT t) (i:=i) (by omega)];assumption
  unfold idsB;rw[s];rfl
 ·refine z01 ?_;have s:((idsT t).all fun i=>decide (i=Idv.zero))=false:=by rw[<-Za (l:=idsT t) (i:=i) (by omega)];assumption
  have B:¬(t.id=Idv.zero ↔ t.kind=0):=fun h=>by
   have:decide (t.id=Idv.zero)=decide (t.kind=0):=decide_eq_decide.2 h;contradiction
  unfold idsB;rw[s,decide_eq_false B];rfl
 ·have s:((idsT t).all fun i=>decide (i=Idv.zero))=false:=by rw[<-Za (l:=idsT t) (i:=i) (by omega)];assumption
  have q:∀ {a b:Bool},(a != b)=false->a=b:=fun {a b} h=>by cases a<;>cases b<;>first|rfl|cases h
  have B:(t.id=Idv.zero ↔ t.kind=0):=by
   have h:=q ‹(decide (t.id=Idv.zero) != decide (t.kind=0))=false›;exact decide_eq_decide.1 h
  rw[show idsB t=decide ((idsT t).Nodup) from by unfold idsB;rw[s,decide_eq_true B];rfl];(refine zqL (fun n c=>∃(j:Nat),n=(idsT t).length-j/\c.t 1=.ptr 0 0/\c.t 3=z2k (idsT t)/\c.t 6=.int .i64 j/\c.H 0=some (.box 27 (z08 t))/\(j<=(idsT t).length)/\(((idsT t).take j).Nodup)/\(1<=c.nx)) ?_ ?_);rintro n c ⟨j,rfl,X,L,M,F,Y,o,Z⟩;rotate_left
  ·(refine⟨_,0,rfl,?_⟩);simp(disch:=omega)only[go_sem,Z0,true_and,Z9,z2k,y,u,g]
   (repeat'(first|omega|refine And.intro ?_ ?_))
   all_goals simp
  repeat'(first|refine nxt ?_|((refine zqh fun K d=>?_);simp(disch:=omega)only[go_sem,Z0,↓reduceIte,L,M,z2k])|(refine zqd _ rfl ?_ ?_<;>intro f<;>(((try simp only[z05]at f);try omega)))|refine zqz ?_|refine zqU ?_|(refine d _ ?_;clear d K))
  ·(refine zqL (fun n c=>∃(k:Nat),n=j-k/\c.t 1=.ptr 0 0/\c.t 3=z2k (idsT t)/\c.t 6=.int .i64 j/\c.t 7=.int .i64 k/\c.H 0=some (.box 27 (z08 t))/\(k<=j)/\(1<=c.nx)/\(∀m,(C:m<k)->(h:m<(idsT t).length)->(I:j<(idsT t).length)->(idsT t)[m]≠(idsT t)[j])) ?_ ?_);rintro n c ⟨k,rfl,N,G,O,P,v,a0,a1,w⟩;rotate_left
   ·(refine⟨_,0,rfl,?_⟩);simp(disch:=omega)only[go_sem,Z0,X,L,M,F,true_and,Z9,z2k]
    (repeat'(first|omega|refine And.intro ?_ ?_))
    all_goals exact fun m C=>by omega
   repeat'(first|refine nxt ?_|((first|refine zqh fun K d=>?_|refine zqe (by decide+kernel) fun K d=>?_|refine zqr fun K d=>?_);simp(disch:=omega)only[go_sem,Z0,↓reduceIte,reduceCtorEq,Z1,G,O,P,z2k])|((first|refine zqd _ rfl (fun f=>?_) (fun f=>?_)|refine zqm _ rfl (fun f=>?_) (fun f=>?_))<;>(((try simp only[z05]at f);try omega)))|refine zqz ?_|refine zqU ?_|(refine d _ ?_;clear d K))
   ·exact z01 (decide_eq_false (nodup_no' (j:=k) (k:=j) (by omega) (by omega) (by assumption))).symm
   ·(refine⟨_,?_,k+1,rfl,?_⟩);rotate_left;simp(disch:=omega)only[go_sem,Z0,N,G,O,P,v,true_and,Z7,Z6,z2k];rotate_left
    ·omega
    ·refine⟨by omega,by omega,fun m C h I=>?_⟩
     by_cases e:m=k
     ·subst e;assumption
     ·exact w m (by omega) h I
   ·skip
    have J:j<(idsT t).length:=by omega
    (refine⟨_,?_,j+1,rfl,?_⟩);rotate_left;simp(disch:=omega)only[go_sem,Z0,true_and,Z7,Z6,N,G,v];rotate_left
    ·omega
    ·exact⟨by omega,zut J o (fun m C=>w m (by omega) (by omega) J),by omega⟩
  ·refine z01 ?_;rw[Za (by omega)]at o;exact(decide_eq_true o).symm
theorem pc_May(t:T)(d:szB t=true)(f:cntT t<=1000000000)(k:depT t<=1000000000):PC prog 23 [z0o t] (.bool (z6y t)):=by
 have g:=pc_Right t d;have h:=pc_DepthR t d k;have i:=zre t d f;have j:=pc_IdsR t d f;refine z14 1 (by simp only[pureD.pureL,z02,Z3]) rfl (zqzj [] func23 rfl (by decide+kernel) rfl ?_)
 repeat'(first|((first|refine zqh fun K e=>?_|refine zqs (g) ?_|refine zqs (h) ?_|refine zqs (i) ?_|refine zqs (j) ?_);simp(disch:=omega)only[go_sem,Z0,↓reduceIte,Z1,Z2])|refine nxt ?_|refine zqU ?_|(refine e _ ?_;clear e K)|(refine zqf (fun c=>?_) (fun c=>?_)<;>(have a:=c;try simp only[z05]at a)<;>((first|have b:(_:Bool)=_:=a|have b:=eq_false a|have b:=eq_true a);simp(disch:=omega)only[go_sem,Z0,↓reduceIte,Z1,Z2,c,b];clear c b;try omega)))
 all_goals refine z01 ?_
 all_goals unfold z6y
 all_goals (simp(disch:=omega)only[decide_eq_true,decide_eq_false,Zh,Zw,ZC, *])
theorem z0b{P:Program}{H:HM}{id e:Nat}{cs:List D}(k:Nat)(a:H id=some (.box e cs))(b:z0r P e=true)(c:pureD.pureL cs=true):z3f P H (k+2) (.ptr id 0)=some (.rptr (.agg cs)):=by
 unfold z3f;simp only[pureD,Zp,if_false,a,b,true_or,and_self,if_true,zet k cs c,Y1]
namespace Tr
theorem zwd:∀t:T,smB t=true->∀x∈z0c t,smB x=true:=by
 refine z4a fun t b h x hx=>?_;rw[z1l]at hx;rcases Zr.1 hx with rfl|hx
 ·exact h
 ·obtain⟨k,a,hx⟩:=ZY.1 hx;exact b k a ((zs6 t).1 h |>.2.2.2 k a) x hx
theorem zah(id:Idv):∀t:T,∀x∈z27 id t,x∈z0c t:=by
 refine z4a fun t c x hx=>?_;rw[zbw]at hx;split at hx
 ·rw[ZG.1 hx];exact z1t t
 ·split at hx
  ·rename_i w b;obtain⟨k,a,rfl⟩:=Zz.1 (Yj b);rcases Zr.1 hx with rfl|hx
   ·exact z1t _
   ·exact z31 a (c k a x hx)
  ·cases hx
def T.zero:T:=.mk Idv.zero 0 Zg [] [] []
def z07(id:Idv)(t:T):T×Bool:=match (z27 id t).getLast? with
 |some x=>(x,true)
 |none=>(T.zero,false)
def z3c(id:Idv)(t:T):Idv×Int×Bool :=
 let w:=z27 id t
 if h:w.length<2 then (Idv.zero,-1,false) else
  let p:=w[w.length-2]
  let n:=z1r (fun k => !(z27 id k).isEmpty) p.kids
  (p.id,if n<p.kids.length then (n:Int) else -1,true)
def z3i(id:Idv)(t:T):List Idv:=((z27 id t).dropLast.map T.id).reverse
end Tr
theorem zd3{w:List T}(h:w=[]):zf7 w=.nil:=if_pos h
theorem z8p{w:List T}(h:w ≠ []):zf7 w=.rsl true 8 (w.map z0o):=if_neg h
theorem zf4{α:Type}:∀(l:List α) (h:l ≠ []),l.getLast?=some (l[l.length-1]'(by have:=ZR.2 h;omega))
 |l,h=>by rw[List.getLast?_eq_getElem?,Ze (by have:=ZR.2 h;omega)]
theorem z4c:Le (.agg [.int .i64 0,.int .i64 0,.int .i64 0,.int .i64 0,.str Zg,.nil,.nil,.nil]) (z0o T.zero):=by
 rw[z0o,z0n];exact Le.agg ⟨XZ _,XZ _,XZ _,XZ _,XZ _,Le.nil 4,Le.nil 4,Le.nil 8,trivial⟩
theorem z8q(t:T)(h:smB t=true)(i:depT t<=1000000000)(id:Idv):PC prog 16 [z0o t,z0z id] (.tup [z0o (z07 id t).1,.bool (z07 id t).2]):=by
 have c:=zwl id t (zs7 t h) i;have k:=z9c id t;refine z14 3 (by simp only[pureD.pureL,z02];rfl) (by simp only[pureD,pureD.pureL,z02,Z3]) (zqzj [] func16 rfl (by decide+kernel) rfl ?_);rw[show Tryz.f16.results.toList=[.cell 4 27,.tmp 5] from rfl]
 by_cases a:z27 id t=[]
 ·rw[zd3 a]at c;have f:z07 id t=(T.zero,false):=by unfold z07;rw[a];rfl
  rw[f]
  repeat'(first|refine nxt ?_|((first|refine zqh fun K b=>?_|refine zqs (c) ?_);simp(disch:=omega)only[go_sem,Z0,↓reduceIte,Z1,Z2])|(refine zqd _ rfl ?_ ?_<;>intro d<;>(first|(cases d;done)|((try omega))))|refine zqu (by(simp(disch:=omega)only[go_sem,Z0,↓reduceIte,Z1,Z2]);rfl) rfl ?_|(refine b _ ?_;clear b K))
  exact z06 (by simp only[pureD,pureD.pureL,Z3]) (Le.tup ⟨z4c,XZ _,trivial⟩)
 ·rw[z8p a]at c;have g:=ZR.2 a;have j:(((z27 id t).length:Int)-1).toNat=(z27 id t).length-1:=by omega
  have e:=pc_copied ((z27 id t)[(z27 id t).length-1]'(by omega)) (zwd t h _ (zah id t _ (Z5 _)));have f:z07 id t=((z27 id t)[(z27 id t).length-1]'(by omega),true):=by unfold z07;rw[zf4 _ a]
  rw[f]
  repeat'(first|refine nxt ?_|((first|refine zqh fun K b=>?_|refine zqs (c) ?_|refine zqs (e) ?_);simp(disch:=omega)only[go_sem,Z0,↓reduceIte,reduceCtorEq,Z1,Z2,j])|(refine zqd _ rfl ?_ ?_<;>intro d<;>(((try simp only[z05]at d);try omega)))|refine zqu (by(simp(disch:=omega)only[go_sem,Z0,↓reduceIte,Z2]);rfl) rfl ?_|(refine b _ ?_;clear b K))
  exact z06 (by simp only[pureD,pureD.pureL,z04,Z3]) (XZ _)
theorem zym(t:T)(e:smB t=true)(d:depT t<=1000000000)(id:Idv):PC prog 66 [z0o t,.rptr (z0z id)] (.bool (!(z27 id t).isEmpty)):=by
 have c:=zwl id t (zs7 t e) d;refine z14 1 (by simp only[pureD.pureL,z02,pureD];rfl) rfl (zqzj [] func66 rfl (by decide+kernel) rfl ?_)
 by_cases b:z27 id t=[]
 ·rw[zd3 b]at c;rw[b]
  repeat'(first|((first|refine zqh fun K a=>?_|refine zqs (c) ?_);simp(disch:=omega)only[go_sem,Z0,↓reduceIte,Z1,Z2])|refine nxt ?_|refine zqU ?_|(refine a _ ?_;clear a K))
  exact z01 rfl
 ·rw[z8p b]at c;rw[show (z27 id t).isEmpty=false from by simpa using b]
  repeat'(first|((first|refine zqh fun K a=>?_|refine zqs (c) ?_);simp(disch:=omega)only[go_sem,Z0,↓reduceIte,Z1,Z2])|refine nxt ?_|refine zqU ?_|(refine a _ ?_;clear a K))
  exact z01 rfl
theorem zr2:∀t:T,∀x∈z0c t,depT x<=depT t:=by
 refine z4a fun t b x hx=>?_;rw[z1l]at hx;rcases Zr.1 hx with rfl|hx
 ·exact ZL _
 ·obtain⟨k,a,hx⟩:=ZY.1 hx;have:=b k a x hx;have:=z50 a;omega
theorem z9t(t:T)(q:smB t=true)(s:depT t<=1000000000)(id:Idv):PC prog 21 [z0o t,z0z id] (.tup [z0z (z3c id t).1,.int .i64 (z3c id t).2.1,.bool (z3c id t).2.2]):=by
 have c:=zwl id t (zs7 t q) s;have y:=z9c id t;refine z14 3 (by simp only[pureD.pureL,z02];rfl) rfl (zqzj [] func21 rfl (by decide+kernel) rfl ?_);rw[show Tryz.f21.results.toList=[.cell 4 23,.tmp 5,.tmp 6] from rfl]
 by_cases l:(z27 id t).length<2
 ·have w:z3c id t=(Idv.zero,-1,false):=by unfold z3c;exact dif_pos l
  rw[w]
  by_cases j:z27 id t=[]
  ·rw[zd3 j]at c
   repeat'(first|refine nxt ?_|((first|refine zqh fun K a=>?_|refine zqs (c) ?_);simp(disch:=omega)only[go_sem,Z0,↓reduceIte,Z1,Z2,ZA])|(refine zqd _ rfl ?_ ?_<;>intro d<;>(first|(cases d;done)|((try omega))))|refine zqu (by(simp(disch:=omega)only[go_sem,Z0,↓reduceIte,Z1,Z2]);rfl) rfl ?_|(refine a _ ?_;clear a K))
   exact z06 rfl (XZ _)
  ·rw[z8p j]at c
   repeat'(first|refine nxt ?_|((first|refine zqh fun K a=>?_|refine zqs (c) ?_);simp(disch:=omega)only[go_sem,Z0,↓reduceIte,Z1,Z2])|(refine zqd _ rfl ?_ ?_<;>intro d<;>(((try simp only[z05]at d);try omega)))|refine zqu (by(simp(disch:=omega)only[go_sem,Z0,↓reduceIte,Z1,Z2]);rfl) rfl ?_|(refine a _ ?_;clear a K))
   exact z06 rfl (XZ _)
 ·have j:z27 id t ≠ []:=fun h=>by rw[h]at l;simp at l
  rw[z8p j]at c;have v:(((z27 id t).length:Int)-2).toNat=(z27 id t).length-2:=by omega
  obtain⟨p,b⟩:∃p,p=((z27 id t)[(z27 id t).length-2]'(by omega)):=⟨_,rfl⟩
  have i:p∈z0c t:=by rw[b];exact zah id t _ (Z5 _)
  have n:=zwd t q p i;have u:=zr2 t p i;obtain⟨_,_,x,r⟩:=(zs6 p).1 n;have f:z3c id t=(p.id,(if z1r (fun k => !(z27 id k).isEmpty) p.kids<p.kids.length then (z1r (fun k => !(z27 id k).isEmpty) p.kids:Int) else -1),true):=by unfold z3c;rw[dif_neg l,<-b]
  rw[f];have m:=zfm false p.kids (by unfold maxLen;omega) (g:=66) (cap:=[.rptr (z0z id)]) (fun k => !(z27 id k).isEmpty) rfl (fun k o=>zym k (r k o) (by have:=z50 o;omega) id)
  repeat'(first|refine nxt ?_|((first|refine zqh fun K a=>?_|refine zqs (c) ?_);simp(disch:=omega)only[go_sem,Z0,↓reduceIte,reduceCtorEq,Z1,Z2,v,<-b])|(refine zqd _ rfl ?_ ?_<;>intro d<;>(((try simp only[z05]at d);try omega)))|(refine a _ ?_;clear a K))
  refine z20 (PC.borrow m rfl 4 (z00 (z0e 3 (z1g _)) (z00 (zi4 3 rfl (z00 (z0b (e:=23) (cs:=z0a id) 1 ?_ z25 rfl) z0i)) z0i))) ?_
  ·(simp(disch:=omega)only[go_sem,Z0,z0a])
  (try(simp(disch:=omega)only[go_sem,Z0]));repeat'(first|((refine zqh fun K a=>?_);simp(disch:=omega)only[go_sem,Z0,↓reduceIte,reduceCtorEq,Z1,Z2])|refine nxt ?_|refine zqu (by(simp(disch:=omega)only[go_sem,Z0,↓reduceIte,Z1,Z2]);rfl) rfl ?_|(refine a _ ?_;clear a K))
  exact z06 rfl (XZ _)
theorem zh3(t:T)(B:smB t=true)(A:depT t<=1000000000)(id:Idv):PC prog 166 [z0o t,z0z id] (z2k (z3i id t)):=by
 have q:=zwl id t (zs7 t B) A;have F:=z9c id t;refine z14 3 (by simp only[pureD.pureL,z02];rfl) (z68 _) (zqzj [5] func166 rfl (by decide+kernel) rfl ?_)
 by_cases p:z27 id t=[]
 ·rw[zd3 p]at q;have y:z3i id t=[]:=by unfold z3i;rw[p];rfl
  rw[y]
  repeat'(first|refine nxt ?_|((first|refine zqh fun K a=>?_|refine zqs (q) ?_);simp(disch:=omega)only[go_sem,Z0,↓reduceIte,Z1,Z2])|(refine a _ ?_;clear a K))
  (refine zqL (fun m c=>∃(i:Nat),m=i-i/\c.t 5=.osl 2 0/\c.t 7=.int .i64 (-2)/\c.H 2=some (.row 23 0 [])/\(i=0)) ?_ ?_);rintro m c ⟨i,rfl,n,o,b,s⟩;rotate_left
  ·(refine⟨_,0,rfl,?_⟩);simp(disch:=omega)only[go_sem,Z0,true_and,and_true,and_self]
   rfl
  repeat'(first|refine nxt ?_|((refine zqh fun K a=>?_);simp(disch:=omega)only[go_sem,Z0,↓reduceIte,Zu,n,o])|(refine zqd _ rfl ?_ ?_<;>intro e<;>(first|(cases e;done)|((try omega))))|refine zqz ?_|refine zqU ?_|(refine a _ ?_;clear a K))
  refine z3j (z2b (l:=[]) (f:=fun i:Idv=>z0a i) 1 ?_ z25 ze7 (fun _=>rfl) (fun _=>rfl));simp(disch:=omega)only[go_sem,b]
  rfl
 ·rw[z8p p]at q;have v:=ZR.2 p;have z:(z3i id t).length=(z27 id t).length-1:=by unfold z3i;simp
  have d:∀k (h:k<(z3i id t).length),(z3i id t)[k]=((z27 id t)[(z27 id t).length-2-k]'(by omega)).id:=fun k h=>by
   have E:k<(z27 id t).length-1:=by omega
   have x:=List.getElem_reverse (l:=(z27 id t).dropLast.map T.id) (i:=k) (by simp;omega);refine x.trans ?_;simp only[YC,List.getElem_dropLast,Yf,List.length_dropLast]
   congr 1
  repeat'(first|refine nxt ?_|((first|refine zqh fun K a=>?_|refine zqs (q) ?_);simp(disch:=omega)only[go_sem,Z0,↓reduceIte,Z1,Z2])|(refine a _ ?_;clear a K))
  (refine zqL (fun m c=>∃(k:_),m=(z27 id t).length-k/\c.t 5=.osl 2 k/\c.t 6=.rsl true 8 ((z27 id t).map z0o)/\c.t 7=.int .i64 ((z27 id t).length-2-k)/\c.H 2=some (.row 23 k (((z3i id t).take k).flatMap z0a))/\(k<=(z3i id t).length)/\(2<=c.nx)) ?_ ?_);rintro m c ⟨k,rfl,n,w,o,b,s,C⟩;rotate_left
  ·(refine⟨_,0,rfl,?_⟩);simp(disch:=omega)only[go_sem,Z0,Z2,true_and,and_true,and_self,Z9,Zo];omega
  by_cases u:k<(z3i id t).length
  ·have g:(((z27 id t).length:Int)-2-k).toNat=(z27 id t).length-2-k:=by omega
   have d:=d k u;have j:=Z4 u;rw[d]at j
   repeat'(first|refine nxt ?_|((first|refine zqh fun K a=>?_|refine zqr fun K a=>?_);simp(disch:=omega)only[go_sem,Z0,↓reduceIte,reduceCtorEq,Z1,Zv,Z2,n,w,o,b,g])|(refine zqd _ rfl ?_ ?_<;>intro e<;>(((try simp only[z05]at e);try omega)))|(refine a _ ?_;clear a K))
   (refine⟨_,?_,k+1,rfl,?_⟩);rotate_left;simp(disch:=omega)only[go_sem,Z0,n,w,o,b,true_and,Z7,Z6,Zi,Zb,Zo,ZI,j,z0a];rotate_left
   ·omega
   ·refine⟨by omega,by omega,by omega⟩
  ·repeat'(first|refine nxt ?_|((refine zqh fun K a=>?_);simp(disch:=omega)only[go_sem,Z0,↓reduceIte,n,o])|(refine zqd _ rfl ?_ ?_<;>intro e<;>(((try simp only[z05]at e);try omega)))|refine zqz ?_|refine zqU ?_|(refine a _ ?_;clear a K))
   have r:k=(z3i id t).length:=by omega
   subst r;rw[Zn]at b;exact z3j (z2b 1 (by(simp(disch:=omega)only[go_sem,b])) z25 ze7 (fun _=>rfl) (fun _=>rfl))
end
section
open Abs Facts Tr
theorem zgv{P:Program}{f:TypeId}{α:Type}[DecidableEq α](enc:α->D)(d:∀a b,eqK P f (enc a) (enc b)=some (decide (a=b)))(v:α->D)(k:α) :
  ∀l:List α,z94 P f (enc k) (l.map fun a=>(enc a,v a))=some (if k∈l then some (l.idxOf k,v k) else none)
 |[]=>by simp[z94]
 |a::l=>by
  simp only[Zc,z94,d]
  by_cases h:k=a
  ·subst h;simp
  ·rw[decide_eq_false h];simp only;rw[zgv enc d v k l]
   by_cases c:k∈l
   ·simp only[c,if_true,Y1,Zr,or_true];rw[YG,show (a==k)=false from by simpa using fun e=>h e.symm];rfl
   ·simp[h,c]
theorem z8h{α:Type}[DecidableEq α](enc:α->D)(v:α->D)(k:α)(x:D):∀l:List α,l.Nodup->k∈l->z9f (l.map fun a=>(enc a,v a)) (l.idxOf k) x=l.map fun a=>(enc a,if a=k then x else v a)
 |[],_,h=>by cases h
 |a::l,c,h=>by
  simp only[Zc,YG]
  by_cases e:a=k
  ·subst e;simp only[beq_self_eq_true,cond_true,z9f,if_true,ZN,true_and];refine Yt fun b d=>?_;have:b≠a:=fun e=>by subst e;exact(YH.1 c).1 d
   rw[if_neg this]
  ·rw[show (a==k)=false from by simpa using e];simp only[cond_false,z9f,if_neg e,ZN,true_and];refine z8h enc v k x l (YH.1 c).2 ?_;rcases Zr.1 h with h|h
   ·exact(e h.symm).elim
   ·exact h
namespace Tr
def z44{α:Type}[DecidableEq α](l:List α):List α:=l.foldl (fun a x=>if x∈a then a else a++[x]) []
theorem zmx{α:Type}[DecidableEq α](l:List α)(x:α):z44 (l++[x])=if x∈z44 l then z44 l else z44 l++[x]:=by unfold z44;rw[Yw];rfl
theorem z005{α:Type}[DecidableEq α]{l:List α}{i:Nat}(h:i<l.length):z44 (l.take (i+1))=if l[i]∈z44 (l.take i) then z44 (l.take i) else z44 (l.take i)++[l[i]]:=by
 rw[Z4 h,zmx]
theorem snoc_ind{α:Type}{p:List α->Prop}(a:p [])(b:∀l x,p l->p (l++[x])):∀l,p l:=fun l=>by
 rw[<-List.reverse_reverse l]
 induction l.reverse with
 |nil=>exact a
 |cons x l c=>rw[Yx];exact b _ _ c
theorem zmy{α:Type}[DecidableEq α](l:List α):(z44 l).Nodup/\(∀x,x∈z44 l ↔ x∈l)/\(z44 l).length<=l.length/\((z44 l).length=l.length ↔ l.Nodup):=by
 refine snoc_ind (p:=fun l=>(z44 l).Nodup/\(∀x,x∈z44 l ↔ x∈l)/\(z44 l).length<=l.length/\((z44 l).length=l.length ↔ l.Nodup)) ?_ ?_ l
 ·exact⟨by simp[z44],by simp[z44],by simp[z44],by simp[z44]⟩
 ·intro l x n;obtain⟨k,c,o,m⟩:=n;rw[zmx]
  by_cases h:x∈z44 l
  ·rw[if_pos h];refine⟨k,fun y=>?_,by simp;omega,?_⟩
   ·rw[c,Y2,ZG];refine⟨.inl,fun j=>?_⟩;rcases j with j|rfl
    ·exact j
    ·exact(c _).1 h
   ·constructor
    ·intro i;simp at i;omega
    ·intro f;rw[ZV]at f;exact(f.2.2 x ((c x).1 h) x (by simp) rfl).elim
  ·rw[if_neg h];refine⟨?_,fun y=>by rw[Y2,Y2,c],by simp;omega,?_⟩
   ·rw[ZV];refine⟨k,by simp,fun a g b d=>?_⟩;rw[ZG]at d;subst d;intro e;subst e;exact h g
   ·rw[Zq,Zq,ZV];constructor
    ·intro i;refine⟨m.1 (by simpa using i),by simp,fun a g b d=>?_⟩;rw[ZG]at d;subst d;intro e;subst e;exact h ((c a).2 g)
    ·intro f;rw[m.2 f.1]
end Tr
end
section
open Abs Facts Tr
attribute [local irreducible] awp
def encC(c:Int×ByteArray):D:=.agg [.int .i64 c.1,.str c.2]
def setC(l:List (Int×ByteArray)):List (D×D):=l.map fun c=>(encC c,.bool true)
def setI(l:List Idv):List (D×D):=l.map fun c=>(z0z c,.bool true)
theorem eqK_C(a b:Int×ByteArray):eqK prog 260 (encC a) (encC b)=some (decide (a=b)):=by
 have h:∀c,z9k prog 260 (encC c)=true:=fun c=>by simp only[encC,z9k,isAggT260,sizeT260];rfl
 unfold eqK;rw[if_pos ⟨h a,h b⟩];refine(eqU260 a.1 b.1 a.2 b.2).trans ?_;obtain⟨d,e⟩:=a;obtain⟨b1,f⟩:=b;simp[ZW]
theorem eqK_I(a b:Idv):eqK prog 23 (z0z a) (z0z b)=some (decide (a=b)):=by
 have h:∀c,z9k prog 23 (z0z c)=true:=fun c=>by simp only[z0z,z0a,z9k,z25,ze7];rfl
 unfold eqK;rw[if_pos ⟨h a,h b⟩];refine(eqU23 a.act b.act a.item b.item a.n b.n).trans ?_;rw[idEq']
theorem find_C(c:Int×ByteArray)(l:List (Int×ByteArray)):(c∈l->∃n,z94 prog 260 (.agg [.int .i64 c.1,.str c.2]) (setC l)=some (some (n,.bool true)))/\(c∉l->z94 prog 260 (.agg [.int .i64 c.1,.str c.2]) (setC l)=some none):=by
 haveI:DecidableEq (Int×ByteArray):=fun a b=>decidable_of_iff (a.1=b.1/\a.2=b.2) ⟨fun h=>Prod.ext h.1 h.2,fun h=>by subst h;exact⟨rfl,rfl⟩⟩
 have h:=zgv encC (fun a b=>(eqK_C a b).trans (by congr 1;exact decide_eq_decide.2 Iff.rfl)) (fun _=>.bool true) c l;refine⟨fun d=>?_,fun d=>?_⟩
 ·rw[if_pos d]at h;exact⟨_,h⟩
 ·rw[if_neg d]at h;exact h
theorem find_I(c:Idv)(l:List Idv):z94 prog 23 (.agg [.int .i64 c.act,.int .i64 c.item,.int .i64 c.n]) (setI l)=some (if c∈l then some (l.idxOf c,.bool true) else none):=zgv z0z eqK_I (fun _=>.bool true) c l
theorem setC_snoc(l:List (Int×ByteArray))(c:Int×ByteArray):setC l++[(.agg [.int .i64 c.1,.str c.2],.bool true)]=setC (l++[c]):=by unfold setC;rw[Zm];rfl
theorem setI_snoc(l:List Idv)(c:Idv):setI l++[(.agg [.int .i64 c.act,.int .i64 c.item,.int .i64 c.n],.bool true)]=setI (l++[c]):=by unfold setI;rw[Zm];rfl
theorem zyu{l:List Idv}{c:Idv}(b:l.Nodup)(h:c∈l):z9f (setI l) (l.idxOf c) (.bool true)=setI l:=by
 unfold setI;rw[z8h z0z (fun _=>.bool true) c (.bool true) l b h];refine Yt fun a _=>?_;simp
namespace Tr
theorem z6m:∀t:T,szB t=true->∀x∈z0c t,szB x=true:=by
 refine z4a fun t c h x hx=>?_;rw[z1l]at hx;rcases Zr.1 hx with rfl|hx
 ·exact h
 ·obtain⟨k,a,hx⟩:=ZY.1 hx;obtain⟨_,_,_,_,_,_,b⟩:=(z1k t).1 h;exact c k a (b k a) x hx
theorem allz_iff{l:List Idv}(k:l ≠ []):(l.all fun i=>decide (i=Idv.zero))=(decide (Idv.zero∈z44 l)&&decide ((z44 l).length=1)):=by
 obtain⟨d,j,_,_⟩:=zmy l;rw[Ye];simp only[ZB,Zf,decide_eq_true_eq];constructor
 ·intro h;obtain⟨x,g⟩:=List.exists_mem_of_ne_nil l k;have c:Idv.zero∈z44 l:=by rw[<-h x g];exact(j x).2 g
  refine⟨c,?_⟩;have e:∀y∈z44 l,y=Idv.zero:=fun y q=>h y ((j y).1 q);generalize z44 l=o at d c e
  match o,d,c,e with
  |[],_,c,_=>cases c
  |[a],_,_,_=>rfl
  |a::b::r,d,_,e =>
   have n:=e a (by simp);have p:=e b (by simp);rw[n,p]at d;simp at d
 ·rintro⟨c,m⟩ x g;have f:=(j x).2 g;generalize z44 l=o at c m f
  match o,m,c,f with
  |[a],_,c,f =>
   rw[ZG]at c f;rw[f,<-c]
theorem beq_dec{p q:Prop}[Decidable p][Decidable q]:(decide p==decide q)=decide (q ↔ p):=by
 by_cases a:p<;>by_cases b:q<;>simp[a,b]
def ownB(t:T):Bool:=(if t.kind=0 then decide (t.label=z3h)&&decide (t.head.length+t.words.length=0) else decide (zgr t.kind≠z3h)&&(z3x t.label&&(zdc t.head&&zdc t.words)))
def zjv(t:T):Bool:=ownB t&&((t.kids.all fun k=>z1h t.kind k.kind)&&(decide ((t.kids.map z5r).Nodup)&&decide (t.kids.length<=64)))
end Tr
theorem pc_alone(t:T)(W:szB t=true):PC prog 295 [z0o t] (.bool (zjv t)):=by
  obtain⟨h0,Q,O,R,P,h3,h4⟩:=(z1k t).1 W;have Y:=zuk t.kind;have Z:=zal t.label (by unfold maxLen;omega);have k3:=pc_rowP t.head Q (fun w I=>by have:=O w I;unfold maxLen;omega);have k4:=pc_rowP t.words R (fun w I=>by have:=P w I;unfold maxLen;omega);refine z14 1 (by simp only[pureD.pureL,z02,Z3]) rfl (zqzj [] func295 rfl (by decide+kernel) rfl ?_)
  repeat'(first|refine nxt ?_|((first|refine zqh fun K d=>?_|refine zqs (Y) ?_|refine zqs (Z) ?_|refine zqs (k3) ?_|refine zqs (k4) ?_);simp(disch:=omega)only[go_sem,Z0,↓reduceIte,reduceCtorEq,Z1,z0l])|(refine zqd _ rfl ?_ ?_<;>intro h<;>(first|(cases h;done)|((try simp only[z05]at h);try omega)))|refine zqU ?_|(refine d _ ?_;clear d K)|(refine zqf (fun g=>?_) (fun g=>?_)<;>(have a:=g;try simp only[z05]at a)<;>((first|have b:(_:Bool)=_:=a|have b:=eq_false a|have b:=eq_true a);simp(disch:=omega)only[go_sem,Z0,↓reduceIte,reduceCtorEq,Z1,b,z0f];clear g b;try omega)))
  all_goals first
    |(refine z01 ?_
      unfold zjv ownB;have L:Zg=z3h:=rfl
      first
        |((simp(disch:=omega)only[decide_eq_false,Zw,ZC,if_true,if_false, *]);done)
        |(simp_all [z3h];done)
        |(simp_all [z3h];omega))
    |skip
  all_goals
    have y:ownB t=true:=by
      unfold ownB
      first
        |(simp_all [z3h];done)
        |(have e1:t.head=[]:=ZF (by omega)
          have e2:t.words=[]:=ZF (by omega)
          simp_all [z3h])
    unfold zjv;rw[y,Zh];(refine zqL (fun N q=>∃(i:_),N=t.kids.length-i/\q.t 1=.ptr 0 0/\q.t 3=.mp 1/\q.t 47=z0l t.kids/\q.t 48=.int .i64 t.kids.length/\q.t 49=.int .i64 i/\q.H 0=some (.box 27 (z08 t))/\q.H 1=some (.map (setC ((t.kids.take i).map z5r)))/\(i<=t.kids.length)/\(2<=q.nx)/\((t.kids.take i).all (fun k=>z1h t.kind k.kind)=true)/\(((t.kids.take i).map z5r).Nodup)) ?_ ?_);rintro N q ⟨i,rfl,C,E,r,l,m,o,p,a0,a1,A,s⟩;rotate_left
    · (refine⟨_,0,rfl,?_⟩);simp(disch:=omega)only[go_sem,Z0,Z2,true_and,Z9,Zj,z0l,setC]
      try simp
    by_cases v:i<t.kids.length
    · have u:=zas t.kind t.kids[i].kind
      by_cases B:z5r t.kids[i]∈(t.kids.take i).map z5r
      · obtain⟨n,c⟩:=(find_C (z5r t.kids[i]) ((t.kids.take i).map z5r)).1 B;have F:¬(t.kids.map z5r).Nodup:=fun U=>by
          obtain⟨x,X,J⟩:=Zz.1 B;obtain⟨j,M,rfl⟩:=Y5 X;rw[ZZ]at M;rw[Ya]at J;exact zib (f:=z5r) (j:=j) (k:=i) (by omega) v J U
        simp only[z5r]at c
        repeat'(first|refine nxt ?_|((first|refine zqh fun K d=>?_|refine zqs (u) ?_);simp(disch:=omega)only[go_sem,Z0,↓reduceIte,reduceCtorEq,Z1,Z2,C,r,l,m,o,z0l])|(refine zqd _ rfl ?_ ?_<;>intro h<;>(first|(cases h;done)|((try simp only[z05]at h);try omega)))|refine zqU ?_|(refine d _ ?_;clear d K)|(refine zqf (fun g=>?_) (fun g=>?_)<;>(have a:=g;try simp only[z05]at a)<;>((have b:(_:Bool)=_:=a);simp(disch:=omega)only[go_sem,Z0,↓reduceIte,Z1,Z2,b,E,p,c];clear g b;try omega)))
        all_goals exact z01 (by rw[decide_eq_false F,Zw,ZC])
      · have c:=(find_C (z5r t.kids[i]) ((t.kids.take i).map z5r)).2 B;have G:setC ((t.kids.take i).map z5r)++[(.agg [.int .i64 t.kids[i].kind,.str t.kids[i].label],.bool true)]=setC ((t.kids.take i).map z5r++[z5r t.kids[i]]):=setC_snoc ((t.kids.take i).map z5r) (z5r t.kids[i]);have z:(t.kids.take (i+1)).map z5r=(t.kids.take i).map z5r++[z5r t.kids[i]]:=by rw[Z4 v,Zm];rfl
        simp only[show z5r t.kids[i]=(t.kids[i].kind,t.kids[i].label) from rfl]at c
        repeat'(first|refine nxt ?_|((first|refine zqh fun K d=>?_|refine zqr fun K d=>?_|refine zqs (u) ?_);simp(disch:=omega)only[go_sem,Z0,↓reduceIte,reduceCtorEq,Z1,Z2,C,E,r,l,m,o,p,z0l,c])|(refine zqd _ rfl ?_ ?_<;>intro h<;>(first|(cases h;done)|((try simp only[z05]at h);try omega)))|refine zqU ?_|(refine d _ ?_;clear d K)|(refine zqf (fun g=>?_) (fun g=>?_)<;>(have a:=g;try simp only[z05]at a)<;>((have b:(_:Bool)=_:=a);simp(disch:=omega)only[go_sem,Z0,↓reduceIte,Z1,Z2,b,E,p,c];clear g b;try omega)))
        · (refine⟨_,?_,i+1,rfl,?_⟩);rotate_left;simp(disch:=omega)only[go_sem,Z0,Z2,C,E,r,l,m,o,p,true_and,Z7,Z6,G,z];rotate_left
          · omega
          · (repeat'(first|omega|refine And.intro ?_ ?_))
            · exact z3d v A (by assumption)
            rw[<-z];exact zd5 v s (fun j M e=>B (by rw[<-e];exact Zz.2 ⟨_,List.mem_iff_getElem.2 ⟨j,by rw[ZZ];omega,Ya⟩,rfl⟩))
        · exact z01 (by rw[z5q (f:=fun k:T=>z1h t.kind k.kind) (k:=i) v (by assumption),Zw])
    · repeat'(first|((refine zqh fun K d=>?_);simp(disch:=omega)only[go_sem,Z0,↓reduceIte,reduceCtorEq,Z1,C,l,m,o,z0l])|(refine zqd _ rfl ?_ ?_<;>intro h<;>(((try simp only[z05]at h);try omega)))|refine nxt ?_|refine zqz ?_|refine zqU ?_|(refine d _ ?_;clear d K))
      rw[Za (by omega)]at s;refine z01 ?_;rw[z3p (by omega) A,decide_eq_true s,Zh,Zh];exact decide_eq_decide.2 (by omega)
theorem pc_ids(t:T)(J:szB t=true)(p:cntT t<=1000000000):PC prog 296 [z0o t] (.bool (idsB t)):=by
 have G:=pc_IDs t (zbx t J) (by omega);have N:=z3q t;refine z14 1 (by simp only[pureD.pureL,z02,Z3]) rfl (zqzj [] func296 rfl (by decide+kernel) rfl ?_)
 repeat'(first|refine nxt ?_|((first|refine zqh fun K b=>?_|refine zqs (G) ?_);simp(disch:=omega)only[go_sem,Z0,↓reduceIte,Z1,Z2])|(refine b _ ?_;clear b K))
 (refine zqL (fun F l=>∃(i:_),F=(idsT t).length-i/\l.t 1=.ptr 0 0/\l.t 3=z2k (idsT t)/\l.t 4=.mp 1/\l.t 11=z2k (idsT t)/\l.t 12=.int .i64 (idsT t).length/\l.t 13=.int .i64 i/\l.H 0=some (.box 27 (z08 t))/\l.H 1=some (.map (setI (z44 ((idsT t).take i))))/\(i<=(idsT t).length)/\(2<=l.nx)) ?_ ?_);rintro F l ⟨i,rfl,x,y,v,n,g,j,o,c,L,M⟩;rotate_left
 ·(refine⟨_,0,rfl,?_⟩);simp(disch:=omega)only[go_sem,Z0,Z2,true_and,and_true,and_self,Z9,z2k,setI]
  rfl
 obtain⟨w,C,E,k⟩:=zmy ((idsT t).take i)
 by_cases I:i<(idsT t).length
 ·have a:=find_I (idsT t)[i] (z44 ((idsT t).take i));have m:=z005 I
  by_cases q:(idsT t)[i]∈z44 ((idsT t).take i)
  ·rw[if_pos q]at a m;have B:=zyu w q
   repeat'(first|((first|refine zqh fun K b=>?_|refine zqr fun K b=>?_);simp(disch:=omega)only[go_sem,Z0,↓reduceIte,reduceCtorEq,Z1,Z2,v,n,g,j,c,z2k,a,B])|(refine zqd _ rfl ?_ ?_<;>intro p<;>(((try simp only[z05]at p);try omega)))|refine nxt ?_|(refine b _ ?_;clear b K))
   (refine⟨_,?_,i+1,rfl,?_⟩);rotate_left;simp(disch:=omega)only[go_sem,Z0,Z2,x,y,v,n,g,j,o,c,true_and,Z7,Z6,m];rotate_left
   ·omega
   ·omega
  ·rw[if_neg q]at a m;have A:=setI_snoc (z44 ((idsT t).take i)) (idsT t)[i]
   repeat'(first|((first|refine zqh fun K b=>?_|refine zqr fun K b=>?_);simp(disch:=omega)only[go_sem,Z0,↓reduceIte,reduceCtorEq,Z1,Z2,v,n,g,j,c,z2k,a])|(refine zqd _ rfl ?_ ?_<;>intro p<;>(((try simp only[z05]at p);try omega)))|refine nxt ?_|(refine b _ ?_;clear b K))
   (refine⟨_,?_,i+1,rfl,?_⟩);rotate_left;simp(disch:=omega)only[go_sem,Z0,Z2,x,y,v,n,g,j,o,c,true_and,Z7,Z6,m,A];rotate_left
   ·omega
   ·omega
 ·rw[Za (by omega)]at c w C E k;have a:z94 prog 23 (.agg [.int .i64 0,.int .i64 0,.int .i64 0]) (setI (z44 (idsT t)))=some (if Idv.zero∈z44 (idsT t) then some ((z44 (idsT t)).idxOf Idv.zero,.bool true) else none):=find_I Idv.zero (z44 (idsT t));have s:(setI (z44 (idsT t))).length=(z44 (idsT t)).length:=by unfold setI;simp
  have z:idsT t ≠ []:=by rw[z1c];simp
  have u:=allz_iff z;have f:idsB t=((idsT t).all (fun i=>decide (i=Idv.zero)) ||(decide ((t.id=Idv.zero) ↔ (t.kind=0))&&decide ((idsT t).Nodup))):=rfl
  by_cases q:Idv.zero∈z44 (idsT t)
  ·rw[if_pos q]at a;rw[decide_eq_true q,Zh]at u
   repeat'(first|((first|refine zqh fun K b=>?_|refine zqe (by decide+kernel) fun K b=>?_);simp(disch:=omega)only[go_sem,Z0,↓reduceIte,Z1,v,g,j,c,a,s])|(refine zqd _ rfl ?_ ?_<;>intro p<;>(((try simp only[z05]at p);try omega)))|refine nxt ?_|refine zqz ?_|refine zqU ?_|(refine b _ ?_;clear b K)|(refine zqf (fun f=>?_) (fun f=>?_)<;>(have d:=f;try simp only[z05]at d)<;>((first|have e:=eq_false d|have e:=eq_true d);simp(disch:=omega)only[go_sem,Z0,↓reduceIte,reduceCtorEq,Z1,Z2,e,x,y,v,o,c,z2k,s];clear f e;try omega)))
   ·have r:(idsT t).Nodup:=k.1 (by omega);refine z01 ?_;rw[f,u,decide_eq_false (show ¬(z44 (idsT t)).length=1 by omega),decide_eq_true r,Y7,Y6,<-beq_dec]
   ·have r:¬(idsT t).Nodup:=fun h=>by have:=k.2 h;omega
    exact z01 (by rw[f,u,decide_eq_false (show ¬(z44 (idsT t)).length=1 by omega),decide_eq_false r,Y7,ZC])
   ·exact z01 (by rw[f,u,decide_eq_true (by omega),Bool.true_or])
  ·rw[if_neg q]at a;rw[decide_eq_false q,Zw]at u
   repeat'(first|((first|refine zqh fun K b=>?_|refine zqe (by decide+kernel) fun K b=>?_);simp(disch:=omega)only[go_sem,Z0,↓reduceIte,Z1,y,v,g,j,c,z2k,a,s])|(refine zqd _ rfl ?_ ?_<;>intro p<;>(((try simp only[z05]at p);try omega)))|refine nxt ?_|refine zqz ?_|refine zqU ?_|(refine b _ ?_;clear b K)|(refine zqf (fun f=>?_) (fun f=>?_)<;>(have d:=f;try simp only[z05]at d)<;>((first|have e:=eq_false d|have e:=eq_true d);simp(disch:=omega)only[go_sem,Z0,↓reduceIte,reduceCtorEq,Z1,Z2,e,x,o];clear f e;try omega)))
   ·have r:(idsT t).Nodup:=k.1 (by omega);refine z01 ?_;rw[f,u,decide_eq_true r,Y7,Y6,<-beq_dec]
   ·have r:¬(idsT t).Nodup:=fun h=>by have:=k.2 h;omega
    exact z01 (by rw[f,u,decide_eq_false r,Y7,ZC])
theorem pc_Valid0(t:T)(c:szB t=true)(f:cntT t<=1000000000)(l:depT t<=1000000000):PC prog 239 [z0o t] (.bool ((z0c t).all zjv&&(decide (depT t<=8)&&(decide (cntT t<=1024)&&idsB t)))):=by
 have h:=pc_every (g:=295) (cap:=[]) zjv rfl t (zbx t c) (fun x m=>pc_alone x (z6m t c x m));have i:=znz t (zbx t c) l;have j:=zo0 t (zbx t c) f;have k:=pc_ids t c f;refine z14 1 (by simp only[pureD.pureL,z02,Z3]) rfl (zqzj [] func239 rfl (by decide+kernel) rfl ?_)
 repeat'(first|((first|refine zqh fun K e=>?_|refine zqs (h) ?_|refine zqs (i) ?_|refine zqs (j) ?_|refine zqs (k) ?_);simp(disch:=omega)only[go_sem,Z0,↓reduceIte,Z1,Z2])|refine nxt ?_|refine zqU ?_|(refine e _ ?_;clear e K)|(refine zqf (fun d=>?_) (fun d=>?_)<;>(have a:=d;try simp only[z05]at a)<;>((first|have b:(_:Bool)=_:=a|have b:=eq_false a|have b:=eq_true a);simp(disch:=omega)only[go_sem,Z0,↓reduceIte,Z1,Z2,d,b];clear d b;try omega)))
 all_goals refine z01 ?_
 all_goals (simp(disch:=omega)only[decide_eq_true,decide_eq_false,Zh,Zw,ZC, *])
namespace Tr
instance:DecidableEq ByteArray:=inferInstance
def zpf:List (T->Bool)->List T->Bool
 |[],[]=>true
 |f::a,t::b=>f t&&zpf a b
 |_,_=>false
def zy4(a:T):T->Bool:=zgc (fun a l b=>decide (a.id=b.id)&&(decide (a.kind=b.kind)&&(decide (a.label=b.label)&&(decide (a.head=b.head)&&(decide (a.words=b.words)&&(decide (a.kids.length=b.kids.length)&&zpf l b.kids)))))) a
theorem sameT_eq(a b:T):zy4 a b=(decide (a.id=b.id)&&(decide (a.kind=b.kind)&&(decide (a.label=b.label)&&(decide (a.head=b.head)&&(decide (a.words=b.words)&&(decide (a.kids.length=b.kids.length)&&zpf (a.kids.map zy4) b.kids)))))):=by
 unfold zy4;rw[z3r]
theorem zpg:∀(l m:List T),(∀k∈l,∀b,zy4 k b=true ↔ k=b)->(zpf (l.map zy4) m=true ↔ l=m)
 |[],[],_=>by simp[zpf]
 |[],_::_,_=>by simp[zpf]
 |_::_,[],_=>by simp[zpf]
 |a::l,b::m,h=>by
  simp only[Zc,zpf,Zf,ZN];rw[h a (by simp) b,zpg l m (fun k c=>h k (Zl _ c))]
theorem sameT_iff:∀a b:T,zy4 a b=true ↔ a=b:=by
 refine z4a fun a i b=>?_;rw[sameT_eq];simp only[Zf,decide_eq_true_eq];rw[zpg a.kids b.kids i];constructor
 ·rintro⟨c,d,e,f,g,_,h⟩;rw[<-T.eta a,<-T.eta b,c,d,e,f,g,h]
 ·rintro rfl;exact⟨rfl,rfl,rfl,rfl,rfl,rfl,rfl⟩
instance:DecidableEq T:=fun a b=>decidable_of_iff _ (sameT_iff a b)
theorem z7z{α:Type}{a b:List α}{k:Nat}(d:k<a.length)(e:a.length=b.length)(h:a.take k=b.take k)(c:a[k]=b[k]'(by omega)):a.take (k+1)=b.take (k+1):=by
 rw[Z4 d,Z4 (show k<b.length by omega),h,c]
theorem zph{α:Type}{a b:List α}{k:Nat}(d:k<a.length)(e:a.length=b.length)(c:¬a[k]=b[k]'(by omega)):¬a=b:=fun h=>by subst h;exact c rfl
theorem zac{α:Type}{a b:List α}{k:Nat}(c:a.length<=k)(d:a.length=b.length)(h:a.take k=b.take k):a=b:=by
 rwa [Za c,Za (by omega)]at h
end Tr
theorem zvr(a b:List Wd)(n:a.length<=maxLen)(o:b.length<=maxLen):PC prog 245 [z0f a,z0f b] (.bool (decide (a=b))):=by
 unfold maxLen at n o;refine z14 1 (by simp only[pureD.pureL,z0g,Z3]) rfl (zqzj [] func245 rfl (by decide+kernel) rfl ?_)
 repeat'(first|refine nxt ?_|((refine zqh fun K c=>?_);simp(disch:=omega)only[go_sem,Z0,↓reduceIte,z0f])|(refine zqd _ rfl ?_ ?_<;>intro d<;>(((try simp only[z05]at d);try omega)))|refine zqU ?_|(refine c _ ?_;clear c K))
 ·exact z01 (decide_eq_false (fun h=>by subst h;contradiction)).symm
 ·have g:a.length=b.length:=by omega
  (refine zqL (fun i f=>∃(k:_),i=a.length-k/\f.t 0=z0f a/\f.t 1=z0f b/\f.t 5=.int .i64 k/\(k<=a.length)/\(a.take k=b.take k)) ?_ ?_);rintro i f ⟨k,rfl,j,l,m,p,e⟩;rotate_left
  ·(refine⟨_,0,rfl,?_⟩);simp(disch:=omega)only[go_sem,Z0,and_self,Z9,z0f]
   try simp
  repeat'(first|refine nxt ?_|((first|refine zqh fun K c=>?_|refine zqe (by decide+kernel) fun K c=>?_|refine zqr fun K c=>?_);simp(disch:=omega)only[go_sem,Z0,↓reduceIte,reduceCtorEq,Z1,j,l,m,z0f])|((first|refine zqd _ rfl (fun d=>?_) (fun d=>?_)|refine zqm _ rfl (fun d=>?_) (fun d=>?_))<;>(((try simp only[z05]at d);try omega)))|refine zqz ?_|refine zqU ?_|(refine c _ ?_;clear c K))
  ·exact z01 (decide_eq_false (zph (k:=k) (by omega) g (by assumption))).symm
  ·(refine⟨_,?_,k+1,rfl,?_⟩);rotate_left;simp(disch:=omega)only[go_sem,Z0,j,l,m,true_and,Z7,Z6,z0f];rotate_left
   ·omega
   ·exact⟨by omega,z7z (by omega) g e (by assumption)⟩
  ·exact z01 (decide_eq_true (zac (by omega) g e)).symm
theorem pc_Same:∀a:T,szB a=true->∀b:T,szB b=true->PC prog 154 [z0o a,z0o b] (.bool (decide (a=b))):=by
 refine z4a fun a ih hs b hb=>?_;obtain⟨a0,a1,_,a2,_,a3,a4⟩:=(z1k a).1 hs;obtain⟨b0,b1,_,b2,_,b3,b4⟩:=(z1k b).1 hb;have r1:=zvr a.head b.head (by unfold maxLen;omega) (by unfold maxLen;omega);have r2:=zvr a.words b.words (by unfold maxLen;omega) (by unfold maxLen;omega);refine z14 1 (by simp only[pureD.pureL,z02,Z3]) rfl (zqzj [] func154 rfl (by decide+kernel) rfl ?_)
 repeat'(first|refine nxt ?_|((first|refine zqh fun K hK=>?_|refine zqs (r1) ?_|refine zqs (r2) ?_);simp(disch:=omega)only[go_sem,Z0,↓reduceIte,reduceCtorEq,Z1,Z2])|(refine zqd _ rfl ?_ ?_<;>intro hc<;>(first|(cases hc;done)|((try simp only[z05]at hc);try omega)))|refine zqU ?_|(refine hK _ ?_;clear hK K)|(refine zqf (fun hb=>?_) (fun hb=>?_)<;>(have hb2:=hb;try simp only[z05]at hb2)<;>((first|have hb3:=eq_false hb2|have hb3:=eq_true hb2);simp(disch:=omega)only[go_sem,Z0,↓reduceIte,reduceCtorEq,Z1,hb3,z0l];clear hb hb3;try omega)))
 rotate_left
 rotate_left
 all_goals first|exact z01 (decide_eq_false (fun h=>by subst h;contradiction)).symm|skip
 have hl:a.kids.length=b.kids.length:=by omega
 (refine zqL (fun mz st=>∃(k:_),mz=a.kids.length-k/\st.t 2=.ptr 0 0/\st.t 3=.ptr 1 0/\st.t 5=.int .i64 k/\st.H 0=some (.box 27 (z08 a))/\st.H 1=some (.box 27 (z08 b))/\(k<=a.kids.length)/\(2<=st.nx)/\(a.kids.take k=b.kids.take k)) ?_ ?_);rintro mz st ⟨k,rfl,q2,q3,q5,qH0,qH1,qp0,qp1,qp2⟩;rotate_left
 ·(refine⟨_,0,rfl,?_⟩);simp(disch:=omega)only[go_sem,Z0,Z2,and_self,Z9]
  try simp
 by_cases hk:k<a.kids.length
 ·have hin:=ih a.kids[k] (Z5 hk) (a4 _ (Z5 hk)) b.kids[k] (b4 _ (Z5 (by omega)))
  repeat'(first|refine nxt ?_|((first|refine zqh fun K hK=>?_|refine zqe (by decide+kernel) fun K hK=>?_|refine zqr fun K hK=>?_|refine zqt (hin) ?_);simp(disch:=omega)only[go_sem,Z0,↓reduceIte,reduceCtorEq,Z1,q2,q3,q5,qH0,qH1,z0l])|((first|refine zqd _ rfl (fun hc=>?_) (fun hc=>?_)|refine zqm _ rfl (fun hc=>?_) (fun hc=>?_))<;>(((try simp only[z05]at hc);try omega)))|refine zqU ?_|(refine hK _ ?_;clear hK K))
  ·exact z01 (decide_eq_false (fun h=>zph hk hl (by assumption) (congrArg T.kids h))).symm
  ·(refine⟨_,?_,k+1,rfl,?_⟩);rotate_left;simp(disch:=omega)only[go_sem,Z0,q2,q3,q5,qH0,qH1,true_and,Z7,Z6];rotate_left
   ·omega
   ·exact⟨by omega,by omega,z7z hk hl qp2 (by assumption)⟩
 ·repeat'(first|refine nxt ?_|((refine zqh fun K hK=>?_);simp(disch:=omega)only[go_sem,Z0,↓reduceIte,reduceCtorEq,Z1,q2,q5,qH0,z0l])|(refine zqd _ rfl ?_ ?_<;>intro hc<;>(((try simp only[z05]at hc);try omega)))|refine zqz ?_|refine zqU ?_|(refine hK _ ?_;clear hK K))
  refine z01 (decide_eq_true ?_).symm;have hkk:=zac (by omega) hl qp2;rw[<-T.eta a,<-T.eta b,‹a.id=b.id›,‹a.kind=b.kind›,‹a.label=b.label›,‹a.head=b.head›,‹a.words=b.words›,hkk]
theorem zvs(l:List Wd)(p:l.length<=1000000):PC prog 248 [z0f l] (z0f (l.map fun w=>⟨w.text,Idv.zero⟩)):=by
 refine z14 2 (by simp only[pureD.pureL,z0g,Z3]) (z0g _) (zqzj [5] func248 rfl (by decide+kernel) rfl ?_)
 repeat'(first|refine nxt ?_|((refine zqh fun K b=>?_);simp(disch:=omega)only[go_sem,Z0,↓reduceIte,reduceCtorEq,Zv,z0f])|(refine b _ ?_;clear b K))
 (refine zqL (fun m d=>∃(k:_),m=l.length-k/\d.t 0=z0f l/\d.t 3=.osl 0 k/\d.t 4=.int .i64 k/\d.H 0=some (.row 122 k (((l.take k).map fun w=>(⟨w.text,Idv.zero⟩:Wd)).flatMap z1p))/\(k<=l.length)) ?_ ?_);rintro m d ⟨k,rfl,h,i,j,a,o⟩;rotate_left
 ·(refine⟨_,0,rfl,?_⟩);simp(disch:=omega)only[go_sem,Z0,and_self,Z9,Zo,Zj,z0f]
 by_cases n:k<l.length
 ·have g:=Z4 n
  repeat'(first|refine nxt ?_|((first|refine zqh fun K b=>?_|refine zqr fun K b=>?_);simp(disch:=omega)only[go_sem,Z0,↓reduceIte,reduceCtorEq,Z1,Zv,Z2,h,i,j,a,z0f])|(refine zqd _ rfl ?_ ?_<;>intro e<;>(((try simp only[z05]at e);try omega)))|(refine b _ ?_;clear b K))
  (refine⟨_,?_,k+1,rfl,?_⟩);rotate_left;simp(disch:=omega)only[go_sem,Z0,h,i,j,a,true_and,Z7,Z6,Zi,Zb,Zo,Zm,Zc,Zj,ZI,g,z1p,Idv.zero];rotate_left
  ·omega
  ·omega
 ·repeat'(first|refine nxt ?_|((refine zqh fun K b=>?_);simp(disch:=omega)only[go_sem,Z0,↓reduceIte,h,i,j,z0f])|(refine zqd _ rfl ?_ ?_<;>intro e<;>(((try simp only[z05]at e);try omega)))|refine zqz ?_|refine zqU ?_|(refine b _ ?_;clear b K))
  have f:k=l.length:=by omega
  subst f;rw[Zn]at a;have c:l.length=(l.map fun w=>(⟨w.text,Idv.zero⟩:Wd)).length:=by simp
  rw[c]at a⊢;refine z3j (z2b 0 ?_ z64 z7d (fun _=>rfl) (fun _=>rfl));simp(disch:=omega)only[go_sem,a]
namespace Tr
theorem z4m{id:Idv}{t:T}(h:t.id=id):z27 id t=[t]:=by rw[zbw,if_pos h]
theorem z5j{id:Idv}{t:T}{i:Nat}(a:¬t.id=id)(hi:i<t.kids.length)(b:∀j,(d:j<i)->(h:j<t.kids.length)->z27 id t.kids[j]=[])(c:z27 id t.kids[i] ≠ []):z27 id t=t::z27 id t.kids[i]:=by
 rw[zbw,if_neg a,zjy (z27 id) hi b c]
theorem zj9{id:Idv}{t:T}{i:Nat}(a:¬t.id=id)(hi:t.kids.length<=i)(b:∀j,(c:j<i)->(h:j<t.kids.length)->z27 id t.kids[j]=[]):z27 id t=[]:=by
 rw[zbw,if_neg a,zjx (z27 id) b hi]
theorem findR_of{id:Idv}{t:T}(h:z27 id t ≠ []):(z07 id t).2=true:=by unfold z07;rw[zf4 _ h]
theorem zeq{id:Idv}{t:T}(h:z27 id t=[]):z07 id t=(T.zero,false):=by unfold z07;rw[h];rfl
theorem findR_way{id:Idv}{t:T}:(z07 id t).2=false ↔ z27 id t=[]:=by
 constructor
 ·intro h
  by_cases a:z27 id t=[]
  ·exact a
  ·rw[findR_of a]at h;cases h
 ·intro h;rw[zeq h]
theorem zcu {id:Idv}{t:T}:(z07 id t).2=true ↔ z27 id t ≠ []:=by
 rw[<-Bool.not_eq_false,findR_way]
theorem z30{id:Idv}{t:T}(h:t.id=id):z07 id t=(t,true):=by unfold z07;rw[z4m h];rfl
theorem z5k{id:Idv}{t k:T}(h:z27 id t=t::z27 id k)(a:z27 id k ≠ []):z07 id t=z07 id k:=by
 unfold z07;rw[h,List.getLast?_cons_of_ne_nil a]
end Tr
namespace Tr
theorem zy5{id:Idv}{t:T}(h:(z27 id t).length<2):z3c id t=(Idv.zero,-1,false):=by unfold z3c;exact dif_pos h
theorem z9r{id:Idv}{t:T}(h:t.id=id):z3c id t=(Idv.zero,-1,false):=zy5 (by rw[z4m h];simp)
theorem zpi{id:Idv}{t:T}{i:Nat}(e:¬t.id=id)(hi:i<t.kids.length)(c:∀j,(d:j<i)->(h:j<t.kids.length)->z27 id t.kids[j]=[])(f:t.kids[i].id=id):z3c id t=(t.id,(i:Int),true):=by
 have b:=z4m f;have a:=z5j e hi c (by rw[b];simp);rw[b]at a;have g:z1r (fun k => !(z27 id k).isEmpty) t.kids=i:=z2j (by omega) (fun j d=>by rw[c j d (by omega)];rfl) (fun h=>by rw[b];rfl);unfold z3c;simp only[a,Zd,ZH];rw[dif_neg (by omega)];simp only[show 0+1+1-2=0 from rfl,Zt,g,hi,if_true]
theorem parR_in{id:Idv}{t:T}{i:Nat}(f:¬t.id=id)(hi:i<t.kids.length)(g:∀j,(l:j<i)->(h:j<t.kids.length)->z27 id t.kids[j]=[])(k:¬t.kids[i].id=id)(b:z27 id t.kids[i] ≠ []):z3c id t=z3c id t.kids[i]:=by
 have d:=z5j f hi g b;have m:2<=(z27 id t.kids[i]).length:=by
  rw[zbw,if_neg k]at b⊢;split
  ·rename_i w c;have:=List.find?_some c;cases w with
   |nil=>simp at this
   |cons a w=>simp
  ·rename_i c;rw[c]at b;exact(b rfl).elim
 unfold z3c;simp only[d,Zd];rw[dif_neg (by omega),dif_neg (by omega)];have e:(z27 id t.kids[i]).length+1-2=(z27 id t.kids[i]).length-2+1:=by omega
 simp only[e,Yq]
theorem zbm{id:Idv}{t:T}(h:t.id=id):z3i id t=[]:=by unfold z3i;rw[z4m h];rfl
theorem zvt{id:Idv}{t:T}{i:Nat}(b:¬t.id=id)(hi:i<t.kids.length)(c:∀j,(d:j<i)->(h:j<t.kids.length)->z27 id t.kids[j]=[])(a:z27 id t.kids[i] ≠ []):z3i id t=z3i id t.kids[i]++[t.id]:=by
 unfold z3i;rw[z5j b hi c a,List.dropLast_cons_of_ne_nil a,Zc,Yx]
end Tr
end
section
open Abs Facts Tr Go.RowKit
namespace Abs
theorem zjh:∀(vs a b:List D) (off:Nat),off+vs.length<=a.length->z1d (a++b) off vs=z1d a off vs++b
 |[],a,b,off,_=>rfl
 |v::vs,a,b,off,h=>by
  simp only[Zd]at h;unfold z1d;rw[List.set_append_left _ _ (by omega),zjh vs (a.set off v) b (off+1) (by rw[YI];omega)]
theorem ze0:∀(vs a b:List D) (off:Nat),z1d (a++b) (a.length+off) vs=a++z1d b off vs
 |[],a,b,off=>rfl
 |v::vs,a,b,off=>by
  unfold z1d;rw[List.set_append_right _ _ (by omega),show a.length+off-a.length=off from by omega,Yk,ze0 vs a (b.set off v) (off+1)]
section
variable {α:Type}{f:α->List D}{sz:Nat}
theorem z6l(h:∀x,(f x).length=sz):∀l:List α,(l.flatMap f).length=l.length*sz
 |[]=>by simp
 |x::l=>by rw[Zb,Zq,h,z6l h l,Zd,Yd];omega
theorem zez(h:∀x,(f x).length=sz):∀(l:List α) (i:Nat),(l.flatMap f).drop (i*sz)=(l.drop i).flatMap f
 |l,0=>by simp
 |[],i+1=>by simp
 |x::l,i+1=>by
  rw[Zb,Zy,<-zez h l i,Yd,YN,Y0,<-YJ]
  congr 1
  rw[List.drop_append_of_le_length (by rw[h];omega),List.drop_of_length_le (by rw[h];omega),Y4]
theorem zji(h:∀x,(f x).length=sz){l:List α}{i:Nat}(hi:i<l.length):((l.flatMap f).drop (i*sz)).take sz=f l[i]:=by
 rw[zez h,List.drop_eq_getElem_cons hi,Zb,List.take_append_of_le_length (by rw[h];omega),Za (by rw[h];omega)]
theorem zjj(h:∀x,(f x).length=sz){y:α}{vs:List D}{o:Nat}:∀ {l:List α}{i:Nat}(hi:i<l.length),o+vs.length<=sz->z1d (f l[i]) o vs=f y->z1d (l.flatMap f) (i*sz+o) vs=(l.set i y).flatMap f
 |x::l,0,_,b,a=>by
  rw[YK,YL,Zb,zjh _ _ _ _ (by rw[h];exact b),Yu,Zb];simp only[Zt]at a;rw[a]
 |x::l,i+1,hi,b,a=>by
  rw[Zb,show (i+1)*sz+o=(f x).length+(i*sz+o) from by rw[h,Yd];omega,ze0,Yv,Zb];rw[zjj h (l:=l) (i:=i) (by simpa using hi) b (by simpa using a)]
theorem z2d:∀(vs cs:List D),vs.length=cs.length->z1d cs 0 vs=vs:=by
 intro vs cs h;rw[zcn vs cs 0 (by omega)];simp[<-h]
theorem zbu(h:∀x,(f x).length=sz){y:α}{l:List α}{i:Nat}(hi:i<l.length):z1d (l.flatMap f) (i*sz) (f y)=(l.set i y).flatMap f:=by
 have:=zjj h (y:=y) (vs:=f y) (o:=0) hi (by rw[h];omega) (z2d _ _ (by rw[h,h]))
 simpa using this
end
variable {P:Program}
theorem z1j{α:Type}{P:Program}{H:HM}{id e sz n:Nat}{f:α->List D}{l:List α}(k:Nat)(c:l.length=n)(a:H id=some (.row e n (l.flatMap f)))(b:z0r P e=true)(g:z0d P e=sz)(h:∀x,(f x).length=sz)(d:∀x,pureD.pureL (f x)=true) :
  z3f P H (k+2) (.osl id n)=some (.rsl false sz (l.map fun x=>.agg (f x))):=by
 subst c;exact z2b k a b g h d
theorem zq4{f:FuncId}{ds:List D}{H:HM}{nx:Nat}{K:D->HM->Nat->Prop}(e:TypeId)(h:AC P f ds H nx fun r d a=>r=.nil/\K (.osl a 0) (z0m d a (some (.row e 0 []))) (a+1)):AC P f ds H nx K:=by
 refine⟨h.1,fun s w q j l m n=>(h.2 s w q j l m n).mono fun x t ⟨v,r,s',he,⟨hr,hK⟩,hstep,hRH,hrel⟩=>?_⟩;subst hr;simp only[rel]at hrel;subst hrel;obtain⟨g,i⟩:=z7u hRH (Grew.refl t) (.row e 0 []) (.slice none 0 0) (fun b o=>by cases o) ⟨[],⟨by simp,.inl ⟨rfl,rfl⟩⟩,z15,by intro v p;cases p⟩;refine⟨.slice none 0 0,.osl s'.nx 0,s'.add (.slice none 0 0) (.row e 0 []),he,hK,hstep.trans g,i,?_⟩;simp only[rel];refine⟨Nat.lt_succ_self _,⟨none,0,rfl⟩,fun y k u c=>?_⟩;simp only[RS.add,z0m,if_true,Zs,HObj.row.injEq]at c;obtain⟨_,rfl,_⟩:=c;exact⟨ZL _,fun _=>by simp[RS.add]⟩
theorem z9s{st:St}{b off:Nat}{e:TypeId}{cs:List D}(t:TypeId)(n:st.H b=some (.box e cs))(r:cs[off]?=some .nil) :
  SealTo P st { st with H:=z0m (z0m st.H st.nx (some (.row t 0 []))) b (some (.box e (cs.set off (.osl st.nx 0)))),nx:=st.nx+1 }:=by
 intro N s a w c;have m:s.H b=some (.box e cs):=by rw[c.H];exact n
 have q:b≠s.nx:=by have:=(c.heap.obj b _ m).1;omega
 obtain⟨z,A⟩:=z7u c.heap (Grew.refl w) (.row t 0 []) (.slice none 0 0) (fun b n=>by cases n) ⟨[],⟨by simp,.inl ⟨rfl,rfl⟩⟩,z15,by intro v l;cases l⟩;have o:(s.add (.slice none 0 0) (.row t 0 [])).H b=some (.box e cs):=by simp[RS.add,z0m,q,m]
 obtain⟨_,G⟩:=A.obj b _ o
 obtain⟨B,E⟩:=z90 (w':=w) A b _ (.box e (cs.set off (.osl s.nx 0))) ((s.add (.slice none 0 0) (.row t 0 [])).κ b) o rfl rfl rfl (ZL _) (fun _ _ _=>rfl) (.inr ⟨_,rfl,rfl⟩) (fun b n=>.inl n) (fun F=>by
  obtain⟨C,M,I,J,y,K⟩:=G;refine⟨C,M,I,J,?_,K⟩;have p:=z0j y;refine z6u (by rw[YI];exact p) fun i d v j l=>?_;rw[List.getElem?_set]at j;split at j
  ·rename_i x;subst x;split at j
   ·cases j;obtain⟨L,g,u⟩:=z38 y _ _ r;rw[g]at l;cases l;simp only[rel]at u⊢;subst u;refine⟨by simp[RS.set,RS.add],⟨_,_,rfl⟩,fun O k cs Q=>⟨Nat.zero_le _,fun _=>?_⟩⟩;simp only[RS.set,RS.add];rw[if_neg (fun h=>q h.symm)];simp
   ·cases j
  ·obtain⟨L,g,u⟩:=z38 y _ _ j;rw[g]at l;cases l
   exact rel.later F _ _ u)
 refine⟨_,⟨?_,?_,c.size,c.defers,fun i=>rel.later (z.trans B).later _ _ (c.tmps i),E⟩,z.trans B⟩
 ·simp only[RS.set,RS.add,c.H,c.nx]
 ·simp only[RS.set,RS.add,c.nx]
theorem z09{N id:Nat}{l:List Oper}{b:Code}{own:List Nat}{Q:Exit->St->Prop}{st:St}(a:(id==N)=false)(h:∀K:St->Prop,(∀st,awp P own b Q st->K st)->z2y P own (l.map (·.dst)) l K st):awp P own (.seq (.region id l.toArray false) b) Q st:=zqh h
theorem z1s{N id:Nat}{l:List Oper}{b:Code}{own:List Nat}{Q:Exit->St->Prop}{st:St}(a:(id==N)=false)(c:zmk own l.toArray=true)(h:∀K:St->Prop,(∀st,awp P own b Q st->K st)->z46 P own (l.map (·.dst)) l K st):awp P own (.seq (.region id l.toArray true) b) Q st:=zqe c h
end Abs
end
section
open Abs Facts Tr
attribute [local irreducible] awp
namespace Tr
def zl7(w:Wd):Wd:=⟨w.text,Idv.zero⟩
def z97(t:T):T:=zgc (fun t l=>.mk Idv.zero t.kind t.label (t.head.map zl7) (t.words.map zl7) l) t
theorem zpm(t:T):z97 t=.mk Idv.zero t.kind t.label (t.head.map zl7) (t.words.map zl7) (t.kids.map z97):=by unfold z97;rw[z3r]
theorem sz_strip:∀t:T,szB t=true->szB (z97 t)=true:=by
 refine z4a fun t m h=>?_;obtain⟨c,d,e,f,g,i,j⟩:=(z1k t).1 h;rw[zpm,z1k];refine⟨c,(show (t.head.map zl7).length<=_ by simpa using d),fun w b=>?_,(show (t.words.map zl7).length<=_ by simpa using f),fun w b=>?_,(show (t.kids.map z97).length<=_ by simpa using i),fun k l=>?_⟩
 ·obtain⟨x,a,rfl⟩:=Zz.1 b;exact e x a
 ·obtain⟨x,a,rfl⟩:=Zz.1 b;exact g x a
 ·obtain⟨x,a,rfl⟩:=Zz.1 l;exact m x a (j x a)
end Tr
theorem pc_StripR:∀t:T,szB t=true->PC prog 158 [z0o t] (z0o (z97 t)):=by
 refine z4a fun t E C=>?_;obtain⟨L,z,I,A,J,M,B⟩:=(z1k t).1 C;have b1:PC prog 248 [z0f t.head] (z0f (t.head.map zl7)):=zvs t.head z;have y:PC prog 248 [z0f t.words] (z0f (t.words.map zl7)):=zvs t.words A;rw[zpm];refine z14 4 (by simp only[pureD.pureL,z02,Z3]) (z02 _) (zqzj [3000006,3000008,3000010,5000011,3000013,5000014] func158 rfl (by decide+kernel) rfl ?_);rw[show Tryz.f158.results.toList=[.cell 2 27] from rfl]
 repeat'(first|refine nxt ?_|((first|refine z09 (N:=2) rfl fun K a=>?_|refine z1s (N:=2) rfl (by decide+kernel) fun K a=>?_|refine zqt (b1) ?_|refine zqt (y) ?_);simp(disch:=omega)only[go_sem,Z0,YD,↓reduceIte,reduceCtorEq,Z1,Z2,z0f])|(refine a _ ?_;clear a K))
 refine z33 fun K a=>?_;simp(disch:=omega)only[go_sem];refine a _ _ (z9s (b:=2) (off:=7) (e:=27) 27 (by(simp(disch:=omega)only[go_sem,Z0]);rfl) rfl) ?_;clear a K
 repeat'(refine zqa ?_)
 (refine zqL (fun x c=>∃(i:_),x=t.kids.length-i/\c.t 1=.ptr 0 0/\c.t 2=.ptr 1 0/\c.t 3=.ptr 2 0/\c.t 4=.int .i64 i/\c.H 0=some (.box 27 (z08 t))/\c.H 1=some (.box 27 [.int .i64 0,.int .i64 0,.int .i64 0,.int .i64 0,.str Zg,.nil,.nil,.nil])/\c.H 2=some (.box 27 [.int .i64 0,.int .i64 0,.int .i64 0,.int .i64 t.kind,.str t.label,z0f (t.head.map zl7),z0f (t.words.map zl7),.osl 3 i])/\c.H 3=some (.row 27 i (((t.kids.take i).map z97).flatMap z08))/\(i<=t.kids.length)/\(4<=c.nx)) ?_ ?_);rintro x c ⟨i,rfl,s,u,v,w,g,h,j,d,F,G⟩;rotate_left
 ·(refine⟨_,0,rfl,?_⟩);simp(disch:=omega)only[go_sem,Z0,Z1,Z2,and_self,Z9,Zo,Zj,z0f,Yv,Yu]
 by_cases o:i<t.kids.length
 ·have q:=E t.kids[i] (Z5 o) (B _ (Z5 o));have r:=Z4 o
  repeat'(first|refine nxt ?_|((first|refine zqh fun K a=>?_|refine zqr fun K a=>?_|refine zqq (by decide+kernel) fun K a=>?_|refine zqt (q) ?_);simp(disch:=omega)only[go_sem,Z0,YD,↓reduceIte,reduceCtorEq,Z1,Zv,Z2,ZP,s,v,w,g,j,d,z0l])|(refine zqd _ rfl ?_ ?_<;>intro n<;>(((try simp only[z05]at n);try omega)))|(refine a _ ?_;clear a K))
  (refine⟨_,?_,i+1,rfl,?_⟩);rotate_left;simp(disch:=omega)only[go_sem,Z0,s,u,v,w,g,h,j,d,true_and,Z7,Z6,Zi,Zb,Zo,Zm,Zc,Zj,ZI,r];rotate_left
  ·omega
  ·omega
 ·repeat'(first|refine nxt ?_|((refine zqh fun K a=>?_);simp(disch:=omega)only[go_sem,Z0,↓reduceIte,reduceCtorEq,Z1,Z2,s,u,v,w,g,h,j,z0l])|(refine zqd _ rfl ?_ ?_<;>intro n<;>(((try simp only[z05]at n);try omega)))|refine zqz ?_|refine zqu (by(simp(disch:=omega)only[go_sem,Z0,↓reduceIte,Z1,Z2,u,h]);rfl) rfl ?_|(refine a _ ?_;clear a K))
  have p:i=t.kids.length:=by omega
  subst p;rw[Zn]at d;rw[z0o,z0n];have m:t.kids.length=(t.kids.map z97).length:=by simp
  refine z3j (z6j (k:=3) (by simp[pureD.pureL,pureD]) ?_);refine z00 (z0e 2 rfl) (z00 (z0e 2 rfl) (z00 (z0e 2 rfl) (z00 (z0e 2 rfl) (z00 (z0e 2 rfl) (z00 (z0e 2 (z0g _)) (z00 (z0e 2 (z0g _)) (z00 ?_ z0i)))))));rw[m];refine z2b (f:=z08) (l:=t.kids.map z97) 1 ?_ z0p z35 z0h z04;simp(disch:=omega)only[go_sem,Z0,d]
theorem pc_Bare(t:T)(c:szB t=true)(i:cntT t<=1000000000)(j:depT t<=1000000000):PC prog 81 [z0o t] (.bool (z6y t&&decide (t=z97 t))):=by
 have f:=pc_May t c i j;have g:=pc_StripR t c;have h:=pc_Same t c (z97 t) (sz_strip t c);refine z14 1 (by simp only[pureD.pureL,z02,Z3]) rfl (zqzj [] func81 rfl (by decide+kernel) rfl ?_)
 repeat'(first|((first|refine zqh fun K d=>?_|refine zqe (by decide+kernel) fun K d=>?_|refine zqt (f) ?_|refine zqt (g) ?_|refine zqt (h) ?_);simp(disch:=omega)only[go_sem,Z0,↓reduceIte,Z1,Z2])|refine nxt ?_|refine zqU ?_|(refine d _ ?_;clear d K)|(refine zqf (fun b=>?_) (fun b=>?_)<;>(have a:=b;try simp only[z05]at a)<;>((have e:(_:Bool)=_:=a);simp(disch:=omega)only[go_sem,Z0,↓reduceIte,Z1,Z2,b];clear b e;try omega)))
 all_goals refine z01 ?_
 all_goals (simp(disch:=omega)only[Zh,Zw, *])
namespace Tr
theorem nameK_ne(k:Int):(zgr k≠z3h) ↔ (0<=k/\k<=7):=by
 by_cases h:0<=k/\k<8
 ·have:zgr k≠z3h:=by
   rcases zry h with rfl|rfl|rfl|rfl|rfl|rfl|rfl|rfl<;>decide
  exact⟨fun _=>by omega,fun _=>this⟩
 ·have:zgr k=z3h:=if_neg h;exact⟨fun a=>absurd this a,fun a=>by omega⟩
theorem own_alone(t:T):(ownB t&&decide (t.kids.length<=64))=z3l t:=by
 unfold ownB z3l
 by_cases a:t.kind=0
 ·rw[if_pos a,if_pos a,decide_eq_true (show 0<=t.kind/\t.kind<=7 by omega)]
  by_cases b:t.head.length=0
  ·by_cases c:t.words.length=0
   ·have d:zdc t.head=true:=by unfold zdc;rw[ZF b];rfl
    have e:zdc t.words=true:=by unfold zdc;rw[ZF c];rfl
    rw[d,e,decide_eq_true b,decide_eq_true c,decide_eq_true (show t.head.length+t.words.length=0 by omega)];simp[Bool.and_comm]
   ·rw[decide_eq_false c,decide_eq_false (show ¬t.head.length+t.words.length=0 by omega)];simp
  ·rw[decide_eq_false b,decide_eq_false (show ¬t.head.length+t.words.length=0 by omega)];simp
 ·rw[if_neg a,if_neg a];have:decide (zgr t.kind≠z3h)=decide (0<=t.kind/\t.kind<=7):=decide_eq_decide.2 (nameK_ne t.kind);rw[this];cases decide (0<=t.kind/\t.kind<=7)<;>cases z3x t.label<;>cases zdc t.head<;>cases zdc t.words<;>cases decide (t.kids.length<=64)<;>rfl
theorem all_nodes(f:T->Bool)(t:T):(z0c t).all f=(f t&&t.kids.all fun k=>(z0c k).all f):=by
 rw[z1l,ZM,List.all_flatMap]
theorem zlw {α:Type}{f g:α->Bool}:∀ {l:List α},(∀x∈l,f x=g x)->l.all f=l.all g
 |[],_=>rfl
 |x::l,h=>by rw[ZM,ZM,h x (by simp),zlw fun y a=>h y (Zl _ a)]
theorem zti:∀t:T,(z0c t).all zjv=z3m t:=by
 refine z4a fun t a=>?_;rw[all_nodes,zlw a,z42,<-own_alone];unfold zjv;cases ownB t<;>cases (t.kids.all fun k=>z1h t.kind k.kind)<;>cases decide ((t.kids.map z5r).Nodup)<;>cases decide (t.kids.length<=64)<;>cases t.kids.all z3m<;>rfl
end Tr
theorem pc_Valid(t:T)(c:szB t=true)(a:cntT t<=1000000000)(b:depT t<=1000000000):PC prog 239 [z0o t] (.bool (z6y t)):=by
 have h:=pc_Valid0 t c a b;rw[zti]at h;exact h
end
section
open Abs Facts Tr
namespace Tr
structure Stp where
 kind:Int
 label:ByteArray
instance:DecidableEq Stp:=fun a b=>decidable_of_iff (a.kind=b.kind/\a.label=b.label) ⟨fun⟨h1,h2⟩=>by cases a;cases b;simp_all,fun h=>by subst h;exact⟨rfl,rfl⟩⟩
inductive It where
 |mk (kind:Int) (at_ to:List Stp) (wh nth:Int) (unit:T) (old new:List ByteArray) (label for_:ByteArray) (sk sd:Int) (se:ByteArray) (act item day:Int) (event:ByteArray) (by_:List It)
namespace It
def kind:It->Int | .mk k _ _ _ _ _ _ _ _ _ _ _ _ _ _ _ _ _=>k
def at_:It->List Stp | .mk _ a _ _ _ _ _ _ _ _ _ _ _ _ _ _ _ _=>a
def to:It->List Stp | .mk _ _ a _ _ _ _ _ _ _ _ _ _ _ _ _ _ _=>a
def wh:It->Int | .mk _ _ _ a _ _ _ _ _ _ _ _ _ _ _ _ _ _=>a
def nth:It->Int | .mk _ _ _ _ a _ _ _ _ _ _ _ _ _ _ _ _ _=>a
def unit:It->T | .mk _ _ _ _ _ a _ _ _ _ _ _ _ _ _ _ _ _=>a
def old:It->List ByteArray | .mk _ _ _ _ _ _ a _ _ _ _ _ _ _ _ _ _ _=>a
def new:It->List ByteArray | .mk _ _ _ _ _ _ _ a _ _ _ _ _ _ _ _ _ _=>a
def label:It->ByteArray | .mk _ _ _ _ _ _ _ _ a _ _ _ _ _ _ _ _ _=>a
def for_:It->ByteArray | .mk _ _ _ _ _ _ _ _ _ a _ _ _ _ _ _ _ _=>a
def sk:It->Int | .mk _ _ _ _ _ _ _ _ _ _ a _ _ _ _ _ _ _=>a
def sd:It->Int | .mk _ _ _ _ _ _ _ _ _ _ _ a _ _ _ _ _ _=>a
def se:It->ByteArray | .mk _ _ _ _ _ _ _ _ _ _ _ _ a _ _ _ _ _=>a
def act:It->Int | .mk _ _ _ _ _ _ _ _ _ _ _ _ _ a _ _ _ _=>a
def item:It->Int | .mk _ _ _ _ _ _ _ _ _ _ _ _ _ _ a _ _ _=>a
def day:It->Int | .mk _ _ _ _ _ _ _ _ _ _ _ _ _ _ _ a _ _=>a
def event:It->ByteArray | .mk _ _ _ _ _ _ _ _ _ _ _ _ _ _ _ _ a _=>a
def by_:It->List It | .mk _ _ _ _ _ _ _ _ _ _ _ _ _ _ _ _ _ a=>a
end It
mutual
theorem zuu{p:It->Prop}(h:∀t,(∀k∈t.by_,p k)->p t):∀t,p t
 | .mk j l m n o q r s u v a b c d e f g i=>h (.mk j l m n o q r s u v a b c d e f g i) (ind2I h i)
theorem ind2I{p:It->Prop}(h:∀t,(∀k∈t.by_,p k)->p t):∀(ks:List It),∀k∈ks,p k
 |[],k,hk=>by cases hk
 |t::a,k,hk=>by
  rcases Zr.1 hk with e|hk
  ·rw[e];exact zuu h t
  ·exact ind2I h a k hk
end
mutual
def recI{β:Type}(f:It->List β->β):It->β
 | .mk j k l m n o p q r s a b c d e g h i=>f (.mk j k l m n o p q r s a b c d e g h i) (recIL f i)
def recIL{β:Type}(f:It->List β->β):List It->List β
 |[]=>[]
 |t::a=>recI f t::recIL f a
end
theorem zx5{β:Type}(f:It->List β->β):∀a,recIL f a=a.map (recI f)
 |[]=>rfl
 |t::b=>by simp[recIL,zx5 f b]
theorem zgt{β:Type}(f:It->List β->β)(t:It):recI f t=f t (t.by_.map (recI f)):=by
 cases t;rw[recI,zx5];rfl
end Tr
namespace Abs
open Tr
def z8x(s:Stp):List D:=[.int .i64 s.kind,.str s.label]
def zb9(s:Stp):D:=.agg (z8x s)
def z0k(l:List Stp):D:=.rsl false 2 (l.map zb9)
@[go_sem]theorem encSt_agg(s:Stp):zb9 s=.agg [.int .i64 s.kind,.str s.label]:=rfl
theorem z1u(l:List Stp):pureD (z0k l)=true:=by simp only[z0k,pureD];exact z0x (fun _=>rfl) l
def zx6(x:It)(ks:List (List D)):List D:=.int .i64 x.kind::z0k x.at_::z0k x.to :: .int .i64 x.wh :: .int .i64 x.nth::(z08 x.unit++[z1n x.old,z1n x.new,.str x.label,.str x.for_,.int .i64 x.sk,.int .i64 x.sd,.str x.se,.int .i64 x.act,.int .i64 x.item,.int .i64 x.day,.str x.event,.rsl false 25 (ks.map .agg)])
def z0t(x:It):List D:=recI zx6 x
def zfp(x:It):D:=.agg (z0t x)
def z5e(l:List It):D:=.rsl false 25 (l.map zfp)
theorem zkl (x:It):z0t x=.int .i64 x.kind::z0k x.at_::z0k x.to :: .int .i64 x.wh :: .int .i64 x.nth::(z08 x.unit++[z1n x.old,z1n x.new,.str x.label,.str x.for_,.int .i64 x.sk,.int .i64 x.sd,.str x.se,.int .i64 x.act,.int .i64 x.item,.int .i64 x.day,.str x.event,z5e x.by_]):=by
 unfold z0t;rw[zgt,zx6,Y8];rfl
theorem z0v(x:It):z0t x=[.int .i64 x.kind,z0k x.at_,z0k x.to,.int .i64 x.wh,.int .i64 x.nth,.int .i64 x.unit.id.act,.int .i64 x.unit.id.item,.int .i64 x.unit.id.n,.int .i64 x.unit.kind,.str x.unit.label,z0f x.unit.head,z0f x.unit.words,z0l x.unit.kids,
  z1n x.old,z1n x.new,.str x.label,.str x.for_,.int .i64 x.sk,.int .i64 x.sd,.str x.se,.int .i64 x.act,.int .i64 x.item,.int .i64 x.day,.str x.event,z5e x.by_]:=by
 rw[zkl,z0n];rfl
@[go_sem]theorem encIt_agg(x:It):zfp x=.agg (z0t x):=rfl
@[go_sem]theorem zdk(x:It):(z0t x).length=25:=by rw[z0v];rfl
@[go_sem]theorem zsd(x:It):(z0t x)[0]?=some (.int .i64 x.kind):=by rw[z0v];rfl
@[go_sem]theorem zzq(x:It):(z0t x)[1]?=some (z0k x.at_):=by rw[z0v];rfl
@[go_sem]theorem zzr(x:It):(z0t x)[2]?=some (z0k x.to):=by rw[z0v];rfl
@[go_sem]theorem zzs(x:It):(z0t x)[3]?=some (.int .i64 x.wh):=by rw[z0v];rfl
@[go_sem]theorem zuv(x:It):(z0t x)[4]?=some (.int .i64 x.nth):=by rw[z0v];rfl
@[go_sem]theorem zuw(x:It):(z0t x)[13]?=some (z1n x.old):=by rw[z0v];rfl
@[go_sem]theorem zux(x:It):(z0t x)[14]?=some (z1n x.new):=by rw[z0v];rfl
@[go_sem]theorem zog(x:It):(z0t x)[15]?=some (.str x.label):=by rw[z0v];rfl
@[go_sem]theorem zuy(x:It):(z0t x)[16]?=some (.str x.for_):=by rw[z0v];rfl
@[go_sem]theorem zzt(x:It):(z0t x)[17]?=some (.int .i64 x.sk):=by rw[z0v];rfl
@[go_sem]theorem zzu(x:It):(z0t x)[18]?=some (.int .i64 x.sd):=by rw[z0v];rfl
@[go_sem]theorem zzv(x:It):(z0t x)[19]?=some (.str x.se):=by rw[z0v];rfl
@[go_sem]theorem zuz(x:It):(z0t x)[20]?=some (.int .i64 x.act):=by rw[z0v];rfl
@[go_sem]theorem zse(x:It):(z0t x)[21]?=some (.int .i64 x.item):=by rw[z0v];rfl
@[go_sem]theorem zv0(x:It):(z0t x)[22]?=some (.int .i64 x.day):=by rw[z0v];rfl
@[go_sem]theorem zoh(x:It):(z0t x)[23]?=some (.str x.event):=by rw[z0v];rfl
@[go_sem]theorem zzw(x:It):(z0t x)[24]?=some (z5e x.by_):=by rw[z0v];rfl
@[go_sem]theorem zsf(x:It):ZO 8 (Yc 5 (z0t x))=z08 x.unit:=by rw[z0v,z0n];rfl
@[go_sem]theorem cellsIt_start(x:It):ZO 3 (Yc 17 (z0t x))=[.int .i64 x.sk,.int .i64 x.sd,.str x.se]:=by rw[z0v];rfl
@[go_sem]theorem zsg(x:It):ZO 25 (z0t x)=z0t x:=Za (by rw[zdk];decide)
theorem zcc:∀x,pureD.pureL (z0t x)=true:=by
 refine zuu fun x b=>?_;rw[z0v];have a:pureD (z5e x.by_)=true:=by
  simp only[z5e,pureD];generalize x.by_=l at b⊢
  induction l with
  |nil=>rfl
  |cons t l c =>
   simp only[Zc,pureD.pureL,Zf];exact⟨by simpa only[zfp,pureD] using b t (by simp),c fun k a=>b k (Zl _ a)⟩
 simp only[pureD.pureL,pureD,z1u,z0g,z1g,z1q,a,Z3]
theorem z5p(x:It):pureD (zfp x)=true:=zcc x
theorem zv1(l:List It):pureD (z5e l)=true:=by simp only[z5e,pureD];exact z0x z5p l
attribute [go_sem] zcc
end Abs
namespace Tr
structure EIt where
 act:Int
 item:Int
 day:Int
 it:It
end Tr
namespace Abs
def z0w(d:EIt):List D:=.int .i64 d.act :: .int .i64 d.item :: .int .i64 d.day::z0t d.it
def za4(d:EIt):D:=.agg (z0w d)
@[go_sem]theorem encEi_agg(d:EIt):za4 d=.agg (z0w d):=rfl
@[go_sem]theorem zlg(d:EIt):(z0w d).length=28:=by unfold z0w;simp only[Zd,zdk]
@[go_sem]theorem cellsEi_act(d:EIt):(z0w d)[0]?=some (.int .i64 d.act):=rfl
@[go_sem]theorem cellsEi_item(d:EIt):(z0w d)[1]?=some (.int .i64 d.item):=rfl
@[go_sem]theorem cellsEi_it(d:EIt):ZO 25 (Yc 3 (z0w d))=z0t d.it:=by
 show ZO 25 (z0t d.it)=_;rw[zsg]
@[go_sem]theorem cellsEi_take(d:EIt):ZO 28 (z0w d)=z0w d:=Za (by rw[zlg];decide)
theorem zhh(d:EIt):pureD.pureL (z0w d)=true:=by unfold z0w;simp only[pureD.pureL,pureD,zcc,Z3]
theorem za5(d:EIt):pureD (za4 d)=true:=zhh d
attribute [go_sem] zhh
@[go_sem]theorem cellsEi_kind' (d:EIt):(z0w d)[3]?=some (.int .i64 d.it.kind):=by unfold z0w;simp only[Z8,zsd]
@[go_sem]theorem cellsEi_at' (d:EIt):(z0w d)[4]?=some (z0k d.it.at_):=by unfold z0w;simp only[Z8,zzq]
@[go_sem]theorem cellsEi_to' (d:EIt):(z0w d)[5]?=some (z0k d.it.to):=by unfold z0w;simp only[Z8,zzr]
@[go_sem]theorem cellsEi_wh' (d:EIt):(z0w d)[6]?=some (.int .i64 d.it.wh):=by unfold z0w;simp only[Z8,zzs]
@[go_sem]theorem cellsEi_nth' (d:EIt):(z0w d)[7]?=some (.int .i64 d.it.nth):=by unfold z0w;simp only[Z8,zuv]
@[go_sem]theorem cellsEi_old' (d:EIt):(z0w d)[16]?=some (z1n d.it.old):=by unfold z0w;simp only[Z8,zuw]
@[go_sem]theorem cellsEi_new' (d:EIt):(z0w d)[17]?=some (z1n d.it.new):=by unfold z0w;simp only[Z8,zux]
@[go_sem]theorem cellsEi_label' (d:EIt):(z0w d)[18]?=some (.str d.it.label):=by unfold z0w;simp only[Z8,zog]
@[go_sem]theorem cellsEi_for' (d:EIt):(z0w d)[19]?=some (.str d.it.for_):=by unfold z0w;simp only[Z8,zuy]
@[go_sem]theorem cellsEi_sk' (d:EIt):(z0w d)[20]?=some (.int .i64 d.it.sk):=by unfold z0w;simp only[Z8,zzt]
@[go_sem]theorem cellsEi_sd' (d:EIt):(z0w d)[21]?=some (.int .i64 d.it.sd):=by unfold z0w;simp only[Z8,zzu]
@[go_sem]theorem cellsEi_se' (d:EIt):(z0w d)[22]?=some (.str d.it.se):=by unfold z0w;simp only[Z8,zzv]
@[go_sem]theorem cellsEi_act' (d:EIt):(z0w d)[23]?=some (.int .i64 d.it.act):=by unfold z0w;simp only[Z8,zuz]
@[go_sem]theorem cellsEi_item' (d:EIt):(z0w d)[24]?=some (.int .i64 d.it.item):=by unfold z0w;simp only[Z8,zse]
@[go_sem]theorem cellsEi_day' (d:EIt):(z0w d)[25]?=some (.int .i64 d.it.day):=by unfold z0w;simp only[Z8,zv0]
@[go_sem]theorem cellsEi_event' (d:EIt):(z0w d)[26]?=some (.str d.it.event):=by unfold z0w;simp only[Z8,zoh]
@[go_sem]theorem cellsEi_by' (d:EIt):(z0w d)[27]?=some (z5e d.it.by_):=by unfold z0w;simp only[Z8,zzw]
@[go_sem]theorem cellsEi_unit(d:EIt):ZO 8 (Yc 8 (z0w d))=z08 d.it.unit:=by
 show ZO 8 (Yc 5 (z0t d.it))=_;rw[zsf]
end Abs
end
section
open Abs Facts Tr
attribute [local irreducible] awp
def zjp(l:List Wd):HObj:=.row 122 l.length (l.flatMap z1p)
theorem ac_CloneW(l:List Wd)(p:l.length<=1000000)(H:HM)(nx:Nat):AC prog 73 [z0f l] H nx fun r h g=>r=.osl nx l.length/\h=z0m H nx (some (zjp l))/\g=nx+1:=by
 refine AC.split (pre:=[]) (post:=[]) (sz:=4) (els:=l.map z9i) (fun k=>?_) ?_
 ·have e:l=[]:=by simpa using k
  subst e;have n:PC prog 73 [.nil] .nil:=by
   refine z14 2 rfl rfl (zqzj [] func73 rfl (by decide+kernel) rfl ?_)
   repeat'(first|refine nxt ?_|((refine zqh fun K a=>?_);simp(disch:=omega)only[go_sem,Z0,↓reduceIte])|(refine zqd _ rfl ?_ ?_<;>intro c<;>(first|(cases c;done)|((try omega))))|refine zqU ?_|(refine a _ ?_;clear a K))
   exact z06 rfl (XZ _)
  exact zq4 122 (n.ac ⟨rfl,rfl,rfl,rfl⟩)
 ·have b:OC prog 73 [.rsl true 4 (l.map z9i)] [zjp l] (.osl 0 l.length):=by
   refine zi6 (by simp only[pureD.pureL,pureD,z0x (f:=z9i) (fun _=>rfl) l,Z3]) rfl (fun o b=>by simp at b;subst b;exact z1z (fun _=>rfl) _) (zqzj [5] func73 rfl (by decide+kernel) rfl ?_)
   repeat'(first|refine nxt ?_|((refine zqh fun K a=>?_);simp(disch:=omega)only[go_sem,Z0,↓reduceIte,reduceCtorEq,Z1,Zv,z1a])|(refine zqd _ rfl ?_ ?_<;>intro c<;>(first|(cases c;done)|((try omega))))|refine zqU ?_|(refine a _ ?_;clear a K))
   refine⟨fun _=>0,fun i j m d _=>by simp at m d;omega,?_,fun j d=>?_⟩
   ·(simp(disch:=omega)only[go_sem,Z0,renD])
   ·obtain rfl:j=0:=by simp at d;omega
    (simp(disch:=omega)only[go_sem,zjp])
    try rfl
  exact b.ac ⟨by simp[renD],rfl,rfl⟩
theorem zf5(l:List Wd)(c:l.length<=1000000):OC prog 73 [z0f l] [zjp l] (.osl 0 l.length) :=
 ⟨by simp only[pureD.pureL,z0g,Z3],rfl,fun o a=>by simp at a;subst a;exact z1z (fun _=>rfl) _,fun H d=>(ac_CloneW l c H d).mono fun r f e ⟨b,h2,h3⟩=>⟨by rw[b];rfl,h2,h3⟩⟩
def zr3(l:List T):HObj:=.row 27 l.length (l.flatMap z08)
def zi9(t:T)(a b c:Nat):List D:=[.int .i64 t.id.act,.int .i64 t.id.item,.int .i64 t.id.n,.int .i64 t.kind,.str t.label,.osl a t.head.length,.osl b t.words.length,.osl c t.kids.length]
namespace Tr
end Tr
def zeroC:List D:=[.int .i64 0,.int .i64 0,.int .i64 0,.int .i64 0,.str Zg,.nil,.nil,.nil]
namespace Abs
end Abs
namespace Tr
theorem zmo(deep most:Int):∀(l:List T),(∀k∈l,∀(d m:Int),0<=m->1<=z5i k d m)->∀n:Int,n<=z4y deep most (l.map z5i) n
 |[],_,n=>by simp[z4y]
 |k::l,h,n=>by
  simp only[Zc,z4y];split
  ·have b:=h k (by simp) (deep+1) (most-n) (by omega);have c:=zmo deep most l (fun q a=>h q (Zl _ a)) (n+z5i k (deep+1) (most-n));omega
  ·omega
theorem zkh(deep most:Int):∀(l:List T),(∀k∈l,∀(m:Int),0<=m->z5i k (deep+1) m<=m->(cntT k:Int)=z5i k (deep+1) m/\deep+1+depT k<=20)->∀n:Int,z4y deep most (l.map z5i) n<=most ->
  ((l.flatMap z0c).length:Int)+n=z4y deep most (l.map z5i) n/\∀k∈l,deep+1+depT k<=20
 |[],_,n,_=>by simp[z4y]
 |k::l,h,n,b=>by
  simp only[Zc,z4y]at b⊢;split at b
  ·rename_i a;rw[if_pos a];have c:=zmo deep most l (fun q _ d m c=>(z96 q d m c).1) (n+z5i k (deep+1) (most-n));obtain⟨g,e⟩:=h k (by simp) (most-n) (by omega) (by omega);obtain⟨i,f⟩:=zkh deep most l (fun q hq=>h q (Zl _ hq)) _ b;refine⟨?_,fun q hq=>?_⟩
   ·rw[Zb,Zq];have:(z0c k).length=cntT k:=rfl;omega
   ·rcases Zr.1 hq with rfl|hq
    ·exact e
    ·exact f q hq
  ·omega
theorem zzj(l:List T)(d:Int)(b:Int)(g:d<=b)(h:∀k∈l,d+1+depT k<=b):∀a:Nat,d+a<=b->d+((l.map depT).foldl (fun d x=>max d (1+x)) a:Nat)<=b:=by
 induction l with
 |nil=>intro a c;simpa using c
 |cons k l f =>
  intro a c;rw[Zc,YF];have:=h k (by simp);exact f (fun q e=>h q (Zl _ e)) _ (by omega)
theorem zuq:∀t:T,∀(deep most:Int),0<=most->z5i t deep most<=most->(cntT t:Int)=z5i t deep most/\deep+depT t<=20:=by
 refine z4a fun t e deep most a h=>?_;rw[zna]at h⊢;split at h
 ·omega
 ·rename_i c;rw[if_neg c];obtain⟨f,b⟩:=zkh deep most t.kids (fun k d m a h=>e k d (deep+1) m a h) 1 h;refine⟨?_,?_⟩
  ·rw[z4f];omega
  ·rw[z5w];exact zzj t.kids deep 20 (by omega) b 0 (by omega)
theorem kids_cnt(t:T):t.kids.length<=cntT t:=by
 rw[z4f];have:∀l:List T,l.length<=(l.flatMap z0c).length:=by
  intro l
  induction l with
  |nil=>simp
  |cons k l a =>
   rw[Zb,Zq,Zd];have:=zk0 k;unfold cntT at this;omega
 have:=this t.kids;omega
theorem short_iff(l:List Wd):zbf l=true ↔ (∀w∈l,w.text.size<=100)/\l.length<=300:=by
 unfold zbf;simp only[Zf,ZB,decide_eq_true_eq]
theorem words_sz:∀t:T,zj3 t=true->cntT t<=1000000->szB t=true:=by
 refine z4a fun t f h l=>?_;rw[zp3]at h;simp only[Zf,decide_eq_true_eq,ZB,short_iff]at h;obtain⟨g,⟨c,i⟩,⟨d,j⟩,e⟩:=h;rw[z1k];have a:=kids_cnt t;refine⟨by omega,by omega,fun w b=>?_,by omega,fun w b=>?_,by omega,fun k a=>f k a (e k a) ?_⟩
 ·have:=c w b;omega
 ·have:=d w b;omega
 ·have:=zby a;omega
theorem few_sz{t:T}{most:Int}(a:0<=most)(d:most<=1000)(h:fewB t most=true):szB t=true/\(cntT t:Int)<=most/\depT t<=20:=by
 unfold fewB at h;simp only[Zf,decide_eq_true_eq]at h;obtain⟨b,c⟩:=zuq t 0 most a h.1;exact⟨words_sz t h.2 (by omega),by omega,by omega⟩
end Tr
namespace Tr
theorem sz_zero:szB T.zero=true:=by decide+kernel
theorem z9g(id:Idv)(t:T)(a:szB t=true):szB (z07 id t).1=true:=by
 by_cases h:z27 id t=[]
 ·rw[zeq h];exact sz_zero
 ·unfold z07;rw[zf4 _ h];exact z6m t a _ (zah id t _ (Z5 _))
theorem zeg(id:Idv)(t:T):(z3i id t).length<=depT t:=by
 have a:=z9c id t;have b:(z3i id t).length=(z27 id t).length-1:=by unfold z3i;simp
 omega
end Tr
end
end
end Go.Proofs.YtppebcifiejplaaGreatDoor
