import Derived.WalkKit
import Derived.Below
import Derived.Laws.AppendOwn
import Derived.Laws.Tables
import Derived.Laws.Cells
import Derived.Laws.StructEq
import Derived.Laws.MakeOwn
import Derived.Laws.Append
import Derived.MapKept
import Derived.Laws.RangeString
import Derived.Laws.IdiomStrings
import Derived.Laws.BytesArg
import Derived.Lib.OthersKept
import Derived.LaidEql
/-
 Lemmas of the claim. No condition but those that each names.
-/
set_option linter.unusedSimpArgs false
set_option linter.unusedVariables false
set_option linter.unusedSectionVars false
open Option renaming some.injEq->Z0,map_eq_some_iff->Z1,bind_eq_some_iff->Z4,map_some->Zf,isSome_iff_exists->ZP,map->ZX,getD_some->Y5
open Nat renaming le_refl->Z2,add_mul->Z6,zero_add->Za,lt_of_lt_of_le->Zg,mul_le_mul_right->Zq,lt_or_ge->Zr,zero_le->Zs,add_zero->Zw,le_trans->ZG,mul_one->ZL,zero_mul->ZR,mod_eq_of_lt->Y3,add_assoc->Y7,mod_lt->Ya
open Prod renaming mk.injEq->Z3
open List renaming eq_nil_of_length_eq_zero->Z5,getElem?_eq_none->Z7,replicate->Z8,getElem?_eq_getElem->Z9,getElem?_take->Zb,getElem?_drop->Zd,getElem?_map->Ze,length_append->Zh,ext_getElem?->Zk,length_take->Zl,getElem?_eq_some_iff->Zm,map_cons->Zo,mem_cons_of_mem->Zp,flatMap_cons->Zt,all_eq_true->Zu,length_cons->Zv,length_map->Zx,getElem?_append->Zz,replicate_succ->ZC,map_eq_nil_iff->ZD,getElem?_set->ZF,append_assoc->ZH,flatten_cons->ZI,map_nil->ZJ,length_drop->ZK,nil_append->ZM,cons.injEq->ZN,toArray->ZQ,take_of_length_le->ZS,mem_map->ZT,mem_iff_getElem->ZV,mem_singleton->Y0,size_toArray->Y1,getElem_mem->Y4,mem_append->Y6
open Bool renaming and_eq_true->Zc,false_eq_true->Zn
open Array renaming getElem?_append_left->Zi,length_toList->Zj,getElem?_toList->Zy,toArray_toList->ZB,ext'->ZE,getElem?_eq_some_iff->ZO,getElem?_modify->ZU,toList_zipIdx->ZW,foldl_toList->ZY,getElem?_map->ZZ,toList_push->Y2,range->Y8
open Int renaming le_refl->ZA,not_lt->Y9
namespace Go.Proofs.YtppebcifiejplaaGreatDoor
namespace Abs
open Go.RowKit

inductive D where
 |any
 |int (k:IntKind) (n:Int)
 |bool (b:Bool)
 |str (s:ByteArray)
 |agg (ds:List D)
 |tup (ds:List D)
 |nil
 |rsl (nn:Bool) (sz:Nat) (els:List D)
 |nptr
 |rptr (d:D)
 |nfun
 |fn (f:FuncId) (cap:List D)
 |bfn (f:FuncId) (first:List D)
 |osl (id n:Nat)
 |ptr (id off:Nat)
 |eptr (id n off:Nat)
 |mp (id:Nat)
 |nmp
 |e0
 |fsl (sz:Nat) (els:List D)
 |it (id:Nat)

inductive HObj where
 |box (e:TypeId) (cs:List D)
 |row (e:TypeId) (n:Nat) (cs:List D)
 |map (es:List (D×D))
 |raw (o:Obj)

abbrev HM:=Nat->Option HObj
def zdl:HObj->Bool
 | .map _=>true
 | .raw _=>true
 |_=>false

structure RS where
 m:Addr->Option Value
 κ:Nat->Value
 H:HM
 nx:Nat

def z7a(vs:List Value):Prop:=∀v∈vs,v.oneCell'=true
def cellsAt(m:Addr->Option Value)(a:Addr)(cs:List Value):Prop:=∀j c,cs[j]?=some c->m (a.add j)=some c
def Lies(m:Addr->Option Value)(a:Addr)(sz:Nat)(vs:List Value):Prop :=
 ∀i v,vs[i]?=some v->v.cells.size=sz/\cellsAt m (a.add (i*sz)) v.cells.toList
def blockOf:Value->Option Nat
 | .pointer (some a)=>some a.block
 | .slice (some a) _ _=>some a.block
 | .map (some r)=>some r
 |_=>none

mutual
def rel(s:RS):D->Value->Prop
 | .any,_=>True
 | .int k n,v=>v=.int k n
 | .bool b,v=>v=.bool b
 | .str x,v=>v=.string x
 | .agg l,v=>∃h:List Value,v=.agg h.toArray/\relAll s l h/\z7a h
 | .tup l,v=>∃h:List Value,v=.tuple h.toArray/\relAll s l h
 | .nil,v=>v=.slice none 0 0
 | .rsl q p g,v=>(q=false/\g=[]/\v=.slice none 0 0) \/
   ∃a cap h,v=.slice (some a) g.length cap/\g.length<=cap/\cap<=maxLen/\relAll s g h/\Lies s.m a p h
 | .nptr,v=>v=.pointer none
 | .rptr d,v=>∃a u,v=.pointer (some a)/\rel s d u/\cellsAt s.m a u.cells.toList
 | .nfun,v=>v=.nilFunc
 | .fn f cap,v=>∃h:List Value,v=.func (.func f) #[] h.toArray/\relAll s cap h
 | .bfn f first,v=>∃h:List Value,v=.func (.func f) h.toArray #[]/\relAll s first h
 | .osl id n,v=>id<s.nx/\(∃a c,v=.slice a n c)/\∀e k j,s.H id=some (.row e k j)->n<=k/\(n=k->v=s.κ id)
 | .ptr id i,v=>id<s.nx/\(∃a,v=.pointer (some a))/\∀e j,s.H id=some (.box e j)->∃b,s.κ id=.pointer (some ⟨b,0,none⟩)/\v=.pointer (some ⟨b,i,none⟩)
 | .eptr id n i,v=>id<s.nx/\(∃a,v=.pointer (some a))/\∀e k j,s.H id=some (.row e k j)->n<=k/\(n=k->∃b,blockOf (s.κ id)=some b/\v=.pointer (some ⟨b,i,none⟩))
 | .mp id,v=>id<s.nx/\(∃r,v=.map (some r))/\∀o,s.H id=some o->zdl o=true->v=s.κ id
 | .nmp,v=>v=.map none
 | .e0,v=>∃a,v=.slice (some a) 0 0
 | .fsl p g,v=>(g=[]/\v=.slice none 0 0) \/ ∃a h,v=.slice (some a) g.length g.length/\g.length<=maxLen/\relAll s g h/\Lies s.m a p h
 | .it id,v=>id<s.nx/\(∃a,v=.pointer (some a))/\∀o,s.H id=some o->zdl o=true->v=s.κ id
def relAll(s:RS):List D->List Value->Prop
 |[],a=>a=[]
 |d::b,a=>∃v r,a=v::r/\rel s d v/\relAll s b r
end

theorem z0j{s:RS}:∀ {ds:List D}{vs:List Value},relAll s ds vs->vs.length=ds.length
 |[],vs,h=>by simp[relAll]at h;simp[h]
 |d::ds,vs,h=>by
  obtain⟨v,r,rfl,_,a⟩:=(by simpa only[relAll] using h:∃v r,vs=v::r/\rel s d v/\relAll s ds r)
  simp[z0j a]
theorem z0y{s:RS}{d:D}{ds:List D}{v:Value}{r:List Value}(h:rel s d v)(a:relAll s ds r):relAll s (d::ds) (v::r):=by
 simp only[relAll];exact⟨v,r,rfl,h,a⟩
theorem z15{s:RS}:relAll s [] []:=by simp[relAll]
theorem z38{s:RS}:∀ {ds:List D}{vs:List Value},relAll s ds vs->∀(i:Nat) (d:D),ds[i]?=some d->∃v,vs[i]?=some v/\rel s d v
 |[],vs,h,i,d,a=>by simp at a
 |d0::ds,vs,h,i,d,a=>by
  obtain⟨v,r,rfl,b,c⟩:=(by simpa only[relAll] using h:∃v r,vs=v::r/\rel s d0 v/\relAll s ds r)
  cases i with
  |zero=>simp at a;subst a;exact⟨v,by simp,b⟩
  |succ i =>
   obtain⟨u,f,e⟩:=z38 c i d (by simpa using a);exact⟨u,by simpa using f,e⟩
theorem z6u{s:RS}:∀ {ds:List D}{vs:List Value},vs.length=ds.length->(∀(i:Nat) d v,ds[i]?=some d->vs[i]?=some v->rel s d v)->relAll s ds vs
 |[],vs,a,_=>by
  have:vs=[]:=Z5 (by simpa using a);subst this;exact z15
 |d::ds,[],a,_=>by simp at a
 |d::ds,v::vs,a,h=>z0y (h 0 d v (by simp) (by simp)) (z6u (by simpa using a) fun i b f c e=>h (i+1) b f (by simpa using c) (by simpa using e))
theorem z17{s:RS}:∀ {ds a:List D}{vs us:List Value},relAll s ds vs->relAll s a us->relAll s (ds++a) (vs++us)
 |[],a,vs,us,h,b=>by simp[relAll]at h;subst h;simpa using b
 |d::ds,a,vs,us,h,b=>by
  obtain⟨v,r,rfl,c,e⟩:=(by simpa only[relAll] using h:∃v r,vs=v::r/\rel s d v/\relAll s ds r)
  exact z0y c (z17 e b)
theorem z4k{s:RS}(n:Nat){ds:List D}{vs:List Value}(h:relAll s ds vs):relAll s (ds.take n) (vs.take n):=by
 refine z6u (by simp[z0j h]) fun i d v a b=>?_;simp only[Zb]at a b;split at a
 ·rename_i c;rw[if_pos c]at b;obtain⟨u,f,e⟩:=z38 h i d a;rw[f]at b;cases b;exact e
 ·cases a
theorem z6b{s:RS}(n:Nat){ds:List D}{vs:List Value}(h:relAll s ds vs):relAll s (ds.drop n) (vs.drop n):=by
 refine z6u (by simp[z0j h]) fun i d v b a=>?_;simp only[Zd]at b a;obtain⟨u,e,c⟩:=z38 h _ d b;rw[e]at a;cases a;exact c
theorem zmz{s:RS}{ds:List D}{vs:List Value}(h:relAll s ds vs)(n:Nat){d:D}{v:Value}(g:rel s d v):relAll s (ds.set n d) (vs.set n v):=by
 refine z6u (by simp[z0j h]) fun i f m b a=>?_;simp only[ZF]at b a;have e:=z0j h;split at b
 ·rename_i c;subst c;rw[if_pos rfl]at a;split at b
  ·rename_i l;rw[if_pos (by omega)]at a;cases b;cases a;exact g
  ·cases b
 ·rename_i c;rw[if_neg c]at a;obtain⟨u,k,j⟩:=z38 h i f b;rw[k]at a;cases a;exact j

def owned(s:RS)(k:Nat):Prop:=∃id,id<s.nx/\s.H id≠none/\blockOf (s.κ id)=some k

def objLe(o o':Option HObj)(v v':Value):Prop :=
 match o with
 |none=>o'=none
 |some (.box e _)=>o'=none \/ ∃a,o'=some (.box e a)/\v'=v
 |some (.row e n _)=>o'=none \/ ∃c a,o'=some (.row e c a)/\n<=c/\(n=c->v'=v)
 |some (.map _)=>o'=none \/ ∃b,o'=some b/\zdl b=true/\v'=v
 |some (.raw _)=>o'=none \/ ∃b,o'=some b/\zdl b=true/\v'=v

theorem objLe.refl(o:Option HObj)(v:Value):objLe o o v v:=by
 unfold objLe;cases o with
 |none=>rfl
 |some o=>cases o<;>simp[zdl]
theorem z6e{o:HObj}{o':Option HObj}{v v':Value}(h:zdl o=true)(a:objLe (some o) o' v v'):o'=none \/ ∃b,o'=some b/\zdl b=true/\v'=v:=by
 cases o with
 |box e c=>cases h
 |row e n c=>cases h
 |map d=>exact a
 |raw q=>exact a
theorem zsn{o:HObj}{o':Option HObj}{v v':Value}(h:zdl o=true)(a:o'=none \/ ∃b,o'=some b/\zdl b=true/\v'=v):objLe (some o) o' v v':=by
 cases o with
 |box e c=>cases h
 |row e n c=>cases h
 |map d=>exact a
 |raw q=>exact a
theorem objLe.trans{o o' f:Option HObj}{v v' g:Value}(h:objLe o o' v v')(a:objLe o' f v' g):objLe o f v g:=by
 cases o with
 |none=>unfold objLe at *;simp only at h;subst h;simpa using a
 |some o =>
  by_cases i:zdl o=true
  ·refine zsn i ?_;rcases z6e i h with h|⟨q,h,r,d⟩
   ·subst h;exact .inl (by unfold objLe at a;simpa using a)
   ·subst h;rcases z6e r a with a|⟨s,a,k,c⟩
    ·exact .inl a
    ·exact .inr ⟨s,a,k,c.trans d⟩
  unfold objLe at *;cases o with
  |box e m =>
   rcases h with h|⟨j,h,d⟩
   ·subst h;exact .inl (by simpa using a)
   ·subst h;rcases a with a|⟨b,a,c⟩
    ·exact .inl a
    ·exact .inr ⟨b,a,c.trans d⟩
  |row e n m =>
   rcases h with h|⟨w,j,h,u,d⟩
   ·subst h;exact .inl (by simpa using a)
   ·subst h;rcases a with a|⟨l,b,a,p,c⟩
    ·exact .inl a
    ·exact .inr ⟨l,b,a,by omega,fun e=>(c (by omega)).trans (d (by omega))⟩
  |map t=>exact absurd rfl i
  |raw q=>exact absurd rfl i

structure Step (s:RS) (w:World) (s':RS) (w':World):Prop where
 os:w'.os=w.os
 tape:w'.tape=w.tape
 output:w'.output=w.output
 size:w.heap.size<=w'.heap.size
 nx:s.nx<=s'.nx
 mem:∀a v,s.m a=some v->s'.m a=some v
 new:∀a v,s'.m a=some v->s.m a=some v \/ w.heap.size<=a.block \/ owned s a.block
 objs:∀id,id<s.nx->objLe (s.H id) (s'.H id) (s.κ id) (s'.κ id)
 keep:∀k,k<w.heap.size->¬owned s k->w'.heap[k]?=w.heap[k]?
 own:∀k,owned s' k->owned s k \/ w.heap.size<=k

theorem Step.refl(s:RS)(w:World):Step s w s w :=
 ⟨rfl,rfl,rfl,Z2 _,Z2 _,fun _ _ h=>h,fun _ _ h=>.inl h,fun _ _=>objLe.refl _ _,fun _ _ _=>rfl,fun _ h=>.inl h⟩
theorem Step.trans{s s' d:RS}{w w' e:World}(h:Step s w s' w')(b:Step s' w' d e):Step s w d e:=by
 refine⟨b.os.trans h.os,b.tape.trans h.tape,b.output.trans h.output,ZG h.size b.size,ZG h.nx b.nx,
  fun a v g=>b.mem a v (h.mem a v g),fun a v g=>?_,fun id c=>(h.objs id c).trans (b.objs id (Zg c h.nx)),
  fun k i f=>?_,fun k f=>?_⟩
 ·rcases b.new a v g with h1|h1|h1
  ·exact h.new a v h1
  ·exact .inr (.inl (ZG h.size h1))
  ·rcases h.own _ h1 with h2|h2
   ·exact .inr (.inr h2)
   ·exact .inr (.inl h2)
 ·rw[b.keep k (Zg i h.size) (fun h1=>by
   rcases h.own k h1 with h2|h2
   ·exact f h2
   ·omega)]
  exact h.keep k i f
 ·rcases b.own k f with h1|h1
  ·exact h.own k h1
  ·exact .inr (ZG h.size h1)

structure Later (s s':RS):Prop where
 nx:s.nx<=s'.nx
 mem:∀a v,s.m a=some v->s'.m a=some v
 objs:∀id,id<s.nx->objLe (s.H id) (s'.H id) (s.κ id) (s'.κ id)
theorem Step.later{s s':RS}{w w':World}(h:Step s w s' w'):Later s s':=⟨h.nx,h.mem,h.objs⟩
theorem cellsAt.later{m b:Addr->Option Value}(e:∀a v,m a=some v->b a=some v){a:Addr}{cs:List Value}(h:cellsAt m a cs):cellsAt b a cs :=
 fun j c d=>e _ _ (h j c d)

mutual
theorem rel.later{s s':RS}(h:Later s s'):∀(d:D) (v:Value),rel s d v->rel s' d v
 | .any,_,_=>by simp[rel]
 | .int k n,v,j=>by simpa [rel] using j
 | .bool b,v,j=>by simpa [rel] using j
 | .str x,v,j=>by simpa [rel] using j
 | .agg L,v,j=>by
  simp only[rel]at j⊢;obtain⟨t,l,m,y⟩:=j;exact⟨t,l,relAll.later h L t m,y⟩
 | .tup L,v,j=>by
  simp only[rel]at j⊢;obtain⟨t,l,m⟩:=j;exact⟨t,l,relAll.later h L t m⟩
 | .nil,v,j=>by simpa [rel] using j
 | .rsl Z Y F,v,j=>by
  simp only[rel]at j⊢;rcases j with j|⟨a,cap,t,l,m,y,C,G⟩
  ·exact .inl j
  ·exact .inr ⟨a,cap,t,l,m,y,relAll.later h F t C,fun i u J=>⟨(G i u J).1,(G i u J).2.later h.mem⟩⟩
 | .nptr,v,j=>by simpa [rel] using j
 | .rptr d,v,j=>by
  simp only[rel]at j⊢;obtain⟨a,u,l,m,y⟩:=j;exact⟨a,u,l,rel.later h d u m,y.later h.mem⟩
 | .nfun,v,j=>by simpa [rel] using j
 | .fn f cap,v,j=>by
  simp only[rel]at j⊢;obtain⟨t,l,m⟩:=j;exact⟨t,l,relAll.later h cap t m⟩
 | .bfn f first,v,j=>by
  simp only[rel]at j⊢;obtain⟨t,l,m⟩:=j;exact⟨t,l,relAll.later h first t m⟩
 | .osl id n,v,j=>by
  simp only[rel]at j⊢;obtain⟨l,B,m⟩:=j;refine⟨Zg l h.nx,B,fun e k U g=>?_⟩;have c:=h.objs id l;unfold objLe at c;cases p:s.H id with
  |none=>rw[p]at c;simp only at c;rw[c]at g;cases g
  |some o =>
   rw[p]at c;cases o with
   |box A r=>rcases c with c|⟨x,c,_⟩<;>rw[c]at g<;>cases g
   |map W=>rcases c with c|⟨x,c,z,_⟩<;>rw[c]at g<;>cases g;cases z
   |raw q=>rcases c with c|⟨x,c,z,_⟩<;>rw[c]at g<;>cases g;cases z
   |row A K r =>
    rcases c with c|⟨N,E,c,X,w⟩
    ·rw[c]at g;cases g
    ·rw[c]at g;cases g;obtain⟨y,C⟩:=m _ _ _ p;exact⟨by omega,fun e=>by rw[w (by omega)];exact C (by omega)⟩
 | .ptr id O,v,j=>by
  simp only[rel]at j⊢;obtain⟨l,B,m⟩:=j;refine⟨Zg l h.nx,B,fun e U g=>?_⟩;have c:=h.objs id l;unfold objLe at c;cases p:s.H id with
  |none=>rw[p]at c;simp only at c;rw[c]at g;cases g
  |some o =>
   rw[p]at c;cases o with
   |row A K r=>rcases c with c|⟨_,x,c,_⟩<;>rw[c]at g<;>cases g
   |map W=>rcases c with c|⟨x,c,z,_⟩<;>rw[c]at g<;>cases g;cases z
   |raw q=>rcases c with c|⟨x,c,z,_⟩<;>rw[c]at g<;>cases g;cases z
   |box A r =>
    rcases c with c|⟨E,c,w⟩
    ·rw[c]at g;cases g
    ·rw[c]at g;cases g;obtain⟨b,y,C⟩:=m _ _ p;exact⟨b,by rw[w];exact y,C⟩
 | .eptr id n O,v,j=>by
  simp only[rel]at j⊢;obtain⟨l,B,m⟩:=j;refine⟨Zg l h.nx,B,fun e k U g=>?_⟩;have c:=h.objs id l;unfold objLe at c;cases p:s.H id with
  |none=>rw[p]at c;simp only at c;rw[c]at g;cases g
  |some o =>
   rw[p]at c;cases o with
   |box A r=>rcases c with c|⟨x,c,_⟩<;>rw[c]at g<;>cases g
   |map W=>rcases c with c|⟨x,c,z,_⟩<;>rw[c]at g<;>cases g;cases z
   |raw q=>rcases c with c|⟨x,c,z,_⟩<;>rw[c]at g<;>cases g;cases z
   |row A K r =>
    rcases c with c|⟨N,E,c,X,w⟩
    ·rw[c]at g;cases g
    ·rw[c]at g;cases g;obtain⟨y,C⟩:=m _ _ _ p;exact⟨by omega,fun e=>by rw[w (by omega)];exact C (by omega)⟩
 | .mp id,v,j=>by
  simp only[rel]at j⊢;obtain⟨l,B,m⟩:=j;refine⟨Zg l h.nx,B,fun o g I=>?_⟩;have c:=h.objs id l;cases p:s.H id with
  |none=>rw[p]at c;unfold objLe at c;simp only at c;rw[c]at g;cases g
  |some q =>
   rw[p]at c;cases q with
   |row A K r=>unfold objLe at c;rcases c with c|⟨_,x,c,_⟩<;>rw[c]at g<;>cases g;cases I
   |box A r=>unfold objLe at c;rcases c with c|⟨x,c,_⟩<;>rw[c]at g<;>cases g;cases I
   |map M =>
    rcases z6e rfl c with c|⟨Q,c,_,w⟩
    ·rw[c]at g;cases g
    ·rw[w];exact m _ p rfl
   |raw Q =>
    rcases z6e rfl c with c|⟨R,c,_,w⟩
    ·rw[c]at g;cases g
    ·rw[w];exact m _ p rfl
 | .nmp,v,j=>by simpa [rel] using j
 | .e0,v,j=>by simpa [rel] using j
 | .fsl Y F,v,j=>by
  simp only[rel]at j⊢;rcases j with j|⟨a,t,l,y,C,G⟩
  ·exact .inl j
  exact .inr ⟨a,t,l,y,relAll.later h F t C,fun i u J=>⟨(G i u J).1,(G i u J).2.later h.mem⟩⟩
 | .it id,v,j=>by
  simp only[rel]at j⊢;obtain⟨l,B,m⟩:=j;refine⟨Zg l h.nx,B,fun o g I=>?_⟩;have c:=h.objs id l;cases p:s.H id with
  |none=>rw[p]at c;unfold objLe at c;simp only at c;rw[c]at g;cases g
  |some q =>
   rw[p]at c;cases q with
   |row A K r=>unfold objLe at c;rcases c with c|⟨_,x,c,_⟩<;>rw[c]at g<;>cases g;cases I
   |box A r=>unfold objLe at c;rcases c with c|⟨x,c,_⟩<;>rw[c]at g<;>cases g;cases I
   |map M =>
    rcases z6e rfl c with c|⟨Q,c,_,w⟩
    ·rw[c]at g;cases g
    ·rw[w];exact m _ p rfl
   |raw Q =>
    rcases z6e rfl c with c|⟨R,c,_,w⟩
    ·rw[c]at g;cases g
    ·rw[w];exact m _ p rfl
theorem relAll.later{s s':RS}(h:Later s s'):∀(ds:List D) (vs:List Value),relAll s ds vs->relAll s' ds vs
 |[],vs,a=>by simpa [relAll] using a
 |d::ds,vs,a=>by
  simp only[relAll]at a⊢;obtain⟨v,r,b,c,e⟩:=a;exact⟨v,r,b,rel.later h d v c,relAll.later h ds r e⟩
end

def z0d(P:Program)(t:TypeId):Nat:=((P.info? t).map (·.size)).getD 0

def zlh(b:Array MapEntry)(a:Nat):Prop:=(∀x∈b.toList,x.born<a)/\(b.toList.map (·.born)).Nodup
def objOK(P:Program)(s:RS)(w:World)(v:Value):HObj->Prop
 | .box e f=>∃b d,v=.pointer (some ⟨b,0,none⟩)/\w.heap[b]?=some (.cells (ZQ d) e (0,0))/\relAll s f d/\z7a d
 | .row e n f=>∃d,w.ownsRow 0 e (z0d P e) v n d/\relAll s f d/\z7a d
 | .map g=>∃(r:Nat) (c:Array MapEntry) (a:Nat),v=.map (some r)/\w.heap[r]?=some (.map c a) /\
   relAll s (g.map (·.1)) (c.toList.map (·.key))/\relAll s (g.map (·.2)) (c.toList.map (·.val))/\zlh c a
 | .raw o=>∃r,(v=.pointer (some ⟨r,0,none⟩) \/ v=.map (some r))/\w.heap[r]?=some o

def pureD:D->Bool
 | .osl .. | .ptr .. | .eptr .. | .mp _ | .it _=>false
 | .agg b=>pureL b
 | .tup b=>pureL b
 | .rsl _ _ a=>pureL a
 | .fsl _ a=>pureL a
 | .rptr d=>pureD d
 | .fn _ cap=>pureL cap
 | .bfn _ first=>pureL first
 |_=>true
where pureL:List D->Bool
 |[]=>true
 |d::b=>pureD d&&pureL b
def globD:Nat->D
 |1=>.rptr (.agg [.rsl true 1 [.int .i64 1,.int .i64 2],.rsl true 1 [.int .i64 2],.rsl true 1 [.int .i64 3,.int .i64 4,.int .i64 7],.rsl true 1 [.int .i64 3,.int .i64 4,.int .i64 7],.rsl true 1 [.int .i64 5],.rsl true 1 [.int .i64 6],.nil,.nil])
 |2=>.rptr (.agg [.str ⟨#[98,111,111,107]⟩,.str ⟨#[112,97,114,116]⟩,.str ⟨#[115,101,99,116,105,111,110]⟩,.str ⟨#[112,97,114,97,103,114,97,112,104]⟩,.str ⟨#[116,97,98,108,101]⟩,.str ⟨#[114,111,119]⟩,.str ⟨#[99,101,108,108]⟩,.str ⟨#[110,111,116,101]⟩])
 |_=>.any
theorem z8d(g:Nat):pureD (globD g)=true:=by unfold globD;split<;>rfl
structure RH (P:Program) (s:RS) (w:World):Prop where
 mem:∀a v,s.m a=some v->w.cell? a=some v/\¬owned s a.block
 obj:∀id o,s.H id=some o->id<s.nx/\objOK P s w (s.κ id) o
 apart:∀i j,s.H i≠none->s.H j≠none->i≠j->blockOf (s.κ i)≠none->blockOf (s.κ i)≠blockOf (s.κ j)
 glob:∀g,rel s (globD g) (.pointer (some ⟨g,0,none⟩))

end Abs
namespace Abs
open Go.RowKit

structure St where
 t:Nat->D
 H:HM
 nx:Nat

def z0m(H:HM)(id:Nat)(o:Option HObj):HM:=fun j=>if j=id then o else H j
def updT(t:Nat->D)(i:Nat)(d:D):Nat->D:=fun j=>if j=i then d else t j
def St.put(st:St)(a:Option Nat)(d:D):St :=
 match a with
 |some i=>{ st with t:=updT st.t i d }
 |none=>st

def zhi:Value->D
 | .int k n=>.int k n
 | .bool b=>.bool b
 | .string s=>.str s
 | .slice none 0 0=>.nil
 | .pointer none=>.nptr
 | .nilFunc=>.nfun
 | .map none=>.nmp
 |_=>.any
def z006:Value->D
 | .agg a=>if a.toList.all (·.oneCell') then .agg (a.toList.map zhi) else .any
 |v=>zhi v

def St.ev(st:St):Operand->D
 | .tmp t=>st.t t
 | .const v=>z006 v
 | .global g=>globD g
 | .func f=>.fn f []

def z0r(P:Program)(t:TypeId):Bool :=
 match P.underlying t with
 |some (.struct _)|some (.array _ _)=>true
 |_=>false
def z3a(P:Program)(t:TypeId):Bool :=
 match P.underlying t with
 |some (.struct _)|some (.array _ _)|none=>false
 |_=>true
def z3g(P:Program)(t:TypeId):Option TypeId :=
 match P.underlying t with
 |some (.slice e)=>some e
 |_=>none
def arrT(P:Program)(t:TypeId):Option (Nat×TypeId) :=
 match P.underlying t with
 |some (.array n e)=>some (n,e)
 |_=>none
def z19(P:Program)(t:TypeId)(f:Nat):Option (Nat×TypeId) :=
 match P.underlying t with
 |some (.struct a)=>(a[f]?).map fun x=>(x.offset,x.type)
 |_=>none
def intT(P:Program)(t:TypeId):Option IntKind :=
 match P.underlying t with
 |some (.int k)=>some k
 |_=>none
def z4l(P:Program)(t:TypeId):Bool :=
 match P.underlying t with
 |some (.struct a)=>a.toList.all fun f=>(P.info? f.type).isSome
 |_=>false
def strT(P:Program)(t:TypeId):Bool :=
 match P.underlying t with
 |some .string=>true
 |_=>false
def zv5(P:Program)(t:TypeId):Bool :=
 match P.underlying t with
 |some .bool=>true
 |_=>false
def zxd(P:Program)(t:TypeId):Option (TypeId×TypeId) :=
 match P.underlying t with
 |some (.map k e)=>some (k,e)
 |_=>none
def z5f(P:Program)(t:TypeId):Bool:=((P.info? t).bind (·.zero)).any fun z=>z.cells.size==z0d P t
def z2l(P:Program)(t:TypeId):Nat:=((P.info? t).map (·.bytes)).getD 0
def z4t(P:Program)(t:TypeId):Option (List D) :=
 ((P.info? t).bind (·.zero)).bind fun v=>if v.cells.size=z0d P t/\v.cells.toList.all (·.oneCell') then some (v.cells.toList.map zhi) else none

def z5g:D->Option (List D)
 | .agg a=>some a
 | .any | .tup _=>none
 |d=>some [d]
def z9j(P:Program)(t:TypeId)(cs:List D)(off:Nat):Option D :=
 if z0r P t=true then (if off+z0d P t<=cs.length then some (.agg ((cs.drop off).take (z0d P t))) else none) else if z3a P t=true then cs[off]? else none
def z9k(P:Program)(t:TypeId):D->Bool
 | .agg a=>z0r P t&&a.length==z0d P t
 | .any | .tup _=>false
 |_=>z3a P t

def z5y(P:Program)(H:HM)(t:TypeId):D->Option D
 | .ptr id a=>match H id with
  |some (.box _ b)=>z9j P t b a
  |_=>none
 | .eptr id n a=>match H id with
  |some (.row _ k b)=>if n=k then z9j P t b a else none
  |_=>none
 | .rptr d=>if z9k P t d=true then some d else none
 |_=>none

def z1d{α:Type}:List α->Nat->List α->List α
 |cs,_,[]=>cs
 |cs,a,v::b=>z1d (cs.set a v) (a+1) b

def z7w(P:Program)(H:HM)(t:TypeId)(p v:D):Option HM :=
 match z5g v with
 |some b=>if b.length=z0d P t/\0<b.length then
   (match p with
   | .ptr id a=>match H id with
    |some (.box e c)=>if a+b.length<=c.length then some (z0m H id (some (.box e (z1d c a b)))) else none
    |_=>none
   | .eptr id n a=>match H id with
    |some (.row e k c)=>if n=k/\a+b.length<=c.length then some (z0m H id (some (.row e k (z1d c a b)))) else none
    |_=>none
   |_=>none) else none
 |none=>none

def z4x(P:Program)(s:TypeId)(p:D)(f:Nat):Option D :=
 match z19 P s f with
 |some (o,t)=>if z0d P t=0 then none else
  match p with
  | .ptr id a=>some (.ptr id (a+o))
  | .eptr id n a=>some (.eptr id n (a+o))
  | .rptr (.agg b)=>(z9j P t b o).map .rptr
  |_=>none
 |none=>none

def zv6(els:List D)(i:Int):Option D:=if 0<=i/\i<els.length then els[i.toNat]? else none

def z11(P:Program)(H:HM)(t:TypeId)(x i:D):Option D :=
 match z3g P t with
 |some e =>
  match x,i with
  | .rsl _ g c,.int _ i=>if g=z0d P e/\z0d P e≠0 then (zv6 c i).map .rptr else none
  | .osl id n,.int _ i=>match H id with
   |some (.row f k _)=>if f=e/\n=k/\z0d P e≠0/\0<=i/\i<n then some (.eptr id n (i.toNat*z0d P e)) else none
   |_=>none
  |_,_=>none
 |none =>
  match arrT P t with
  |some (a,e) =>
   match x,i with
   | .ptr id b,.int _ i=>if z0d P e≠0/\0<=i/\i<a then some (.ptr id (b+i.toNat*z0d P e)) else none
   | .eptr id n b,.int _ i=>if z0d P e≠0/\0<=i/\i<a then some (.eptr id n (b+i.toNat*z0d P e)) else none
   | .rptr (.agg d),.int _ i=>if z0d P e≠0/\0<=i/\i<a then (z9j P e d (i.toNat*z0d P e)).map .rptr else none
   |_,_=>none
  |none=>none

def zdm(P:Program)(t:TypeId)(x i:D):Option D :=
 match arrT P t,x,i with
 |some (a,e),.agg c,.int _ i=>if z0d P e≠0/\0<=i/\i<a then z9j P e c (i.toNat*z0d P e) else none
 |none,.str s,.int _ i=>if strT P t=true/\0<=i then (s[i.toNat]?).map fun b=>.int .u8 b.toNat else none
 |_,_,_=>none

def zfw(a:Nat):Option D->Option Int
 |none=>some a
 |some (.int _ i)=>some i
 |_=>none
def zdn(P:Program)(t:TypeId)(x:D)(lo hi:Option D):Option D :=
 match z3g P t with
 |some e =>
  match x with
  | .rsl c b a=>(zfw 0 lo).bind fun l=>(zfw a.length hi).bind fun h=>if b=z0d P e/\z0d P e≠0/\0<=l/\l<=h/\h<=a.length then some (.rsl c b ((a.take h.toNat).drop l.toNat)) else none
  | .nil=>(zfw 0 lo).bind fun l=>(zfw 0 hi).bind fun h=>if z0d P e≠0/\l=0/\h=0 then some .nil else none
  |_=>none
 |none=>match x with
  | .str s=>(zfw 0 lo).bind fun l=>(zfw s.size hi).bind fun h=>if strT P t=true/\0<=l/\l<=h/\h<=s.size then some (.str (s.extract l.toNat h.toNat)) else none
  |_=>none

def zax(P:Program)(t:TypeId)(x:D)(lo hi:Option D)(c:D):Option D :=
 match z3g P t,lo,hi,c with
 |some e,none,some (.int _ h),.int _ m=>match x with
  | .rsl _ b a=>if b=z0d P e/\z0d P e≠0/\0<=h/\h=m/\h<=a.length then some (.fsl b (a.take h.toNat)) else none
  | .nil=>if z0d P e≠0/\h=0/\m=0 then some .nil else none
  |_=>none
 |_,_,_,_=>none
def zom(a:Nat->Option (Nat×Nat)):List D->List (Nat×D)->Option (List D)
 |cells,[]=>some cells
 |cells,(i,v)::c =>
  match a i,z5g v with
  |some (b,d),some e=>if e.length=d/\b+e.length<=cells.length then zom a (z1d cells b e) c else none
  |_,_=>none
def zb6(P:Program)(t:TypeId)(a:List (Nat×D)):Option D :=
 match z4t P t with
 |some b =>
  match P.underlying t with
  |some (.struct _)=>if z4l P t=true then (zom (fun i=>(z19 P t i).map fun(o,ft)=>(o,z0d P ft)) b a).map .agg else none
  |some (.array _ e)=>if z0d P e≠0 then (zom (fun i=>some (i*z0d P e,z0d P e)) b a).map .agg else none
  |_=>none
 |none=>none

def z21(n:Nat):List D->Option (List D)
 |[]=>some []
 |d::a=>match z5g d,z21 n a with
  |some c,some r=>if c.length=n then some (c++r) else none
  |_,_=>none

def z3o(c:TypeId->D->D->Option Bool)(P:Program)(xs d:List D):List Field->Option Bool
 |[]=>some true
 |f::e =>
  if f.name ≠ "_" then
   match z9j P f.type xs f.offset,z9j P f.type d f.offset with
   |some a,some b=>match c f.type a b with
    |some r=>if r=true then z3o c P xs d e else some false
    |none=>none
   |_,_=>none
  else z3o c P xs d e
def eqD(P:Program):Nat->TypeId->D->D->Option Bool
 |0,_,_,_=>none
 |d+1,t,x,y =>
  match P.underlying t,x,y with
  |some .bool,.bool a,.bool b=>some (a==b)
  |some (.int _),.int k a,.int e b=>if k=e then some (a==b) else none
  |some .string,.str a,.str b=>some (decide (a=b))
  |some (.struct c),.agg f,.agg g=>if P.stoodInHeld t=false then z3o (eqD P d) P f g c.toList else none
  |_,_,_=>none

def zso(a:BinOp)(x y:Int):Option Bool :=
 match a with
 | .eql=>some (decide (x=y))
 | .neq=>some (decide (x≠y))
 | .lss=>some (decide (x<y))
 | .leq=>some (decide (x<=y))
 | .gtr=>some (decide (y<x))
 | .geq=>some (decide (y<=x))
 |_=>none
def bitsD(c:BinOp)(k:IntKind)(x y:Int):Option Int :=
 let a:=BitVec.ofInt k.bits x
 let b:=BitVec.ofInt k.bits y
 match c with
 | .and=>some (k.wrap (a &&& b).toNat)
 | .or=>some (k.wrap (a |||b).toNat)
 | .xor=>some (k.wrap (a ^^^ b).toNat)
 | .andNot=>some (k.wrap (a &&& ~~~b).toNat)
 |_=>none
def zhj:D->Option Bool
 | .nil=>some true
 | .rsl true _ _=>some false
 | .rsl _ _ (_::_)=>some false
 | .nptr=>some true
 | .rptr _=>some false
 | .nmp=>some true
 |_=>none
def ptrT(P:Program)(t:TypeId):Bool :=
 match P.underlying t with
 |some (.pointer _)=>true
 |_=>false
def zsp:D->Option Bool
 | .nptr=>some true
 | .rptr _=>some false
 | .ptr _ _=>some false
 |_=>none
def binD(P:Program)(c:BinOp)(t:TypeId):D->D->Option D
 | .int k a,.int d b =>
  match c with
  | .shl=>if 0<=b then some (.int k (k.wrap (a*2 ^ (min b.toNat k.bits)))) else none
  | .shr=>if 0<=b then some (.int k (a.fdiv (2 ^ (min b.toNat k.bits)))) else none
  | .add=>if k=d then some (.int k (k.wrap (a+b))) else none
  | .sub=>if k=d then some (.int k (k.wrap (a-b))) else none
  | .mul=>if k=d then some (.int k (k.wrap (a*b))) else none
  | .quo=>if k=d/\b≠0 then some (.int k (k.wrap (a.tdiv b))) else none
  | .rem=>if k=d/\b≠0 then some (.int k (a.tmod b)) else none
  | .and | .or | .xor | .andNot=>if k=d then (bitsD c k a b).map (.int k) else none
  |_=>if k=d then (zso c a b).map .bool else none
 | .bool a,.bool b =>
  match c with
  | .eql=>if zv5 P t=true then some (.bool (a==b)) else none
  | .neq=>if zv5 P t=true then some (.bool (a != b)) else none
  |_=>none
 | .str a,.str b =>
  match c with
  | .eql=>some (.bool (decide (a=b)))
  | .neq=>some (.bool (decide (a≠b)))
  | .lss=>some (.bool (Op.bytesLess a.toList b.toList))
  | .add=>if a.size+b.size<=9223372036854775807 then some (.str (a++b)) else none
  |_=>none
 | .agg a,.agg b =>
  match c with
  | .eql=>if P.eqGuardType P.depth t=false then (eqD P 8 t (.agg a) (.agg b)).map .bool else none
  | .neq=>if P.eqGuardType P.depth t=false then (eqD P 8 t (.agg a) (.agg b)).map fun r=>.bool (!r) else none
  |_=>none
 |x,.nil =>
  match z3g P t,c with
  |some _,.eql=>match x with
   | .nil | .rsl _ _ _=>(zhj x).map .bool
   |_=>none
  |some _,.neq=>match x with
   | .nil | .rsl _ _ _=>(zhj x).map fun r=>.bool (!r)
   |_=>none
  |_,_=>none
 |x,.nptr =>
  match c with
  | .eql=>if ptrT P t=true then (zsp x).map .bool else none
  | .neq=>if ptrT P t=true then (zsp x).map fun r=>.bool (!r) else none
  |_=>none
 |_,_=>none

def unD(a:UnOp):D->Option D
 | .bool b=>match a with
  | .not=>some (.bool (!b))
  |_=>none
 | .int k n=>match a with
  | .neg=>some (.int k (k.wrap (0-n)))
  |_=>none
 |_=>none

def lenD(P:Program)(H:HM)(t:TypeId):D->Option D
 | .rsl _ _ a=>(z3g P t).map fun _=>.int .i64 a.length
 | .nil=>(z3g P t).map fun _=>.int .i64 0
 | .osl _ n=>(z3g P t).map fun _=>.int .i64 n
 | .mp id=>match H id with
  |some (.map b)=>(zxd P t).map fun _=>.int .i64 b.length
  |_=>none
 | .str s=>if strT P t=true then some (.int .i64 s.size) else none
 |_=>none
def zkq(P:Program)(t:TypeId):Bool :=
 match P.underlying t with
 |some (.int _)|some .string|some .bool=>true
 |_=>false
def zcg(P:Program):List Field->Nat->Nat->Bool
 |[],a,n=>a==n
 |f::b,a,n=>f.offset==a&&decide (f.name ≠ "_")&&zkq P f.type&&z0d P f.type==1&&zcg P b (a+1) n
def keyT(P:Program)(t:TypeId):Bool :=
 match P.underlying t with
 |some (.int _)=>true
 |some .string=>true
 |some .bool=>true
 |some (.struct a)=>zcg P a.toList 0 (z0d P t)
 |_=>false
def eqK(P:Program)(a:TypeId)(k k':D):Option Bool:=if z9k P a k=true/\z9k P a k'=true then eqD P 8 a k k' else none
def z94(P:Program)(a:TypeId)(k:D):List (D×D)->Option (Option (Nat×D))
 |[]=>some none
 |(c,v)::b=>match eqK P a k c with
  |some true=>some (some (0,v))
  |some false=>(z94 P a k b).map (ZX fun x=>(x.1+1,x.2))
  |none=>none
def zli(H:HM)(k k':D):Option Bool :=
 match k,k' with
 | .ptr i 0,.ptr j 0=>match H i,H j with
  |some (.box _ _),some (.box _ _)=>some (decide (i=j))
  |_,_=>none
 |_,_=>none
def zch(H:HM)(k:D):List (D×D)->Option (Option (Nat×D))
 |[]=>some none
 |(b,v)::a=>match zli H k b with
  |some true=>some (some (0,v))
  |some false=>(zch H k a).map (ZX fun x=>(x.1+1,x.2))
  |none=>none
def ptrK(P:Program)(t:TypeId):Bool :=
 match P.underlying t with
 |some (.pointer e)=>decide (z0d P e≠0)&&(P.info? e).isSome
 |_=>false
def z9f:List (D×D)->Nat->D->List (D×D)
 |[],_,_=>[]
 |e::a,0,x=>(e.1,x)::a
 |e::a,i+1,x=>e::z9f a i x
def esD(H:HM):D->Option (List (D×D))
 | .nmp=>some []
 | .mp id=>match H id with
  |some (.map a)=>some a
  |_=>none
 |_=>none
def zeroD(P:Program)(t:TypeId):Option D:=((P.info? t).bind (·.zero)).map z006
def lookR(z:Option D)(a:Bool):Option (Option (Nat×D))->Option D
 |some (some (_,v))=>some (if a=true then .tup [v,.bool true] else v)
 |some none=>z.map fun z=>if a=true then .tup [z,.bool false] else z
 |none=>none
def zec(P:Program)(H:HM)(t:TypeId)(x k:D)(d:Bool):Option D :=
 match zxd P t,esD H x with
 |some (a,c),some b=>if keyT P a=true/\z9k P a k=true then lookR (zeroD P c) d (z94 P a k b) else if ptrK P a=true then lookR (zeroD P c) d (zch H k b) else none
 |_,_=>none
def updR(a:List (D×D))(k x:D):Option (Option (Nat×D))->Option HObj
 |some (some (i,_))=>some (.map (z9f a i x))
 |some none=>some (.map (a++[(k,x)]))
 |none=>none
def zci(P:Program)(H:HM)(t:TypeId)(m k x:D):Option HM :=
 match zxd P t,m with
 |some (b,_),.mp id=>match H id with
  |some (.map a)=>if keyT P b=true/\z9k P b k=true then (updR a k x (z94 P b k a)).map fun o=>z0m H id (some o) else if ptrK P b=true then (updR a k x (zch H k a)).map fun o=>z0m H id (some o) else none
  |_=>none
 |_,_=>none
def maxD:D->D->Option D
 | .int k x,.int _ y=>some (.int k (max x y))
 |_,_=>none
def minD:D->D->Option D
 | .int k x,.int _ y=>some (.int k (min x y))
 |_,_=>none
def zlj(c a b:D):Option D :=
 match c with
 | .bool t=>match a,b with
  | .bool x,.bool y=>some (.bool (if t=true then x else y))
  |a,b=>some (if t=true then a else b)
 |_=>none

def z7b(H:HM)(e:TypeId)(n:Nat):D->Option (Nat×List D)
 | .rsl _ f a=>if f=n then (z21 n a).map fun b=>(a.length,b) else none
 | .nil=>some (0,[])
 | .osl id k=>match H id with
  |some (.row c d b)=>if c=e/\k=d then some (k,b) else none
  |_=>none
 |_=>none
def z8z(P:Program)(H:HM)(nx:Nat)(t:TypeId)(x y:D):Option (D×HM×Nat) :=
 match z3g P t with
 |some e=>if 0<z0d P e/\z5f P e=true then
   (z7b H e (z0d P e) y).bind fun(m,news) =>
    match x with
    | .nil=>if m*z2l P e<=140737488355328/\m<=maxLen then some (.osl nx m,z0m H nx (some (.row e m news)),nx+1) else none
    | .osl id n=>match H id with
     |some (.row d k b)=>if d=e/\n=k/\(n+m)*z2l P e<=140737488355328/\n+m<=maxLen then some (.osl id (n+m),z0m H id (some (.row e (n+m) (b++news))),nx) else none
     |_=>none
    | .fsl c a=>if m=0 then some (.fsl c a,H,nx) else if c=z0d P e/\(a.length+m)*z2l P e<=140737488355328/\a.length+m<=maxLen then (z21 c a).map fun b=>(.osl nx (a.length+m),z0m H nx (some (.row e (a.length+m) (b++news))),nx+1) else none
    |_=>none
  else none
 |none=>none

def z23(b:Bool)(sz:Nat):Nat->List D->List D
 |0,_=>[]
 |n+1,a=>(if b=true then .agg (a.take sz) else (a[0]?).getD .any)::z23 b sz n (a.drop sz)
def zv7(P:Program)(e:TypeId):Bool:=z0r P e ||(!z0r P e&&z0d P e==1)
def zkr(P:Program)(H:HM)(t:TypeId)(x y:D):Option D :=
 match z3g P t with
 |some e=>if 0<z0d P e/\z5f P e=true/\zv7 P e=true then
   (z7b H e (z0d P e) y).bind fun(m,news) =>
    if m*z2l P e<=140737488355328/\m<=maxLen/\pureD.pureL news=true then
     match x with
     | .e0=>some (.rsl false (z0d P e) (z23 (z0r P e) (z0d P e) m news))
     | .nil=>some (.rsl false (z0d P e) (z23 (z0r P e) (z0d P e) m news))
     | .fsl c a=>if 0<m/\c=z0d P e/\(a.length+m)*z2l P e<=140737488355328/\a.length+m<=maxLen then (z21 c a).bind fun b=>if pureD.pureL b=true then some (.rsl true (z0d P e) (z23 (z0r P e) (z0d P e) (a.length+m) (b++news))) else none else none
     |_=>none
    else none
  else none
 |none=>none
def zks(P:Program):D×HM×Nat->Option (D×HM×Nat)
 |(.osl id n,H,b)=>match H id with
  |some (.row e k c)=>if n=k/\zv7 P e=true/\pureD.pureL c=true then some (.rsl false (z0d P e) (z23 (z0r P e) (z0d P e) n c),z0m H id none,b) else none
  |_=>none
 |(.fsl d a,H,b)=>some (.rsl false d a,H,b)
 |_=>none
def zlk(own:List Nat):Option Nat->Bool
 |some i=>own.any fun s=>s==i
 |none=>false
def z0s(a:Nat)(own:List Nat):Option Nat->Bool
 |some i=>own.any fun s=>s==i+a
 |none=>false
def z3b:List Nat->Nat
 |[]=>0
 |s::l=>if 8000000<=s then s-8000000 else z3b l
def cutB(B:Nat)(H:HM):HM:=fun id=>if id<B then H id else none
def zdf(P:Program)(H:HM)(nx:Nat)(t:TypeId):D->Option D
 | .ptr id a=>if id<nx then z5y P H t (.ptr id a) else none
 | .rptr d=>z5y P H t (.rptr d)
 |_=>none
def zed(P:Program)(own:List Nat)(a:Option Nat)(H:HM)(nx:Nat)(t:TypeId)(d:D):Option D :=
 if z0s 3000000 own a=true then zdf P H nx t d else if z0s 6000000 own a=true then z5y P (cutB (z3b own) H) t d else z5y P H t d
theorem load_cut{P:Program}{B:Nat}{H:HM}{t:TypeId}{p d:D}(h:z5y P (cutB B H) t p=some d):z5y P H t p=some d:=by
 have b:∀id o,cutB B H id=some o->H id=some o:=fun id o c=>by
  unfold cutB at c;split at c
  ·exact c
  ·cases c
 unfold z5y at h⊢;split at h<;>first|exact h|skip
 ·rename_i id e;split at h
  ·rename_i a;rw[b _ _ a];exact h
  ·cases h
 ·rename_i id n e;split at h
  ·rename_i a;rw[b _ _ a];exact h
  ·cases h
theorem loadG_some{P:Program}{own:List Nat}{a:Option Nat}{H:HM}{nx:Nat}{t:TypeId}{p d:D}(h:zed P own a H nx t p=some d):z5y P H t p=some d:=by
 unfold zed at h;split at h
 ·unfold zdf at h;split at h
  ·split at h
   ·exact h
   ·cases h
  ·exact h
  ·cases h
 ·split at h
  ·exact load_cut h
  ·exact h
def hmG(own:List Nat)(a:Option Nat)(H:HM):HM:=if z0s 3000000 own a=true then fun _=>none else if z0s 6000000 own a=true then cutB (z3b own) H else H
theorem zxe{own:List Nat}{a:Option Nat}{H:HM}{id:Nat}{o:HObj}(h:hmG own a H id=some o):H id=some o:=by
 unfold hmG at h;split at h
 ·cases h
 ·split at h
  ·unfold cutB at h;split at h
   ·exact h
   ·cases h
  ·exact h
theorem zkt{P:Program}{own:List Nat}{a:Option Nat}{H:HM}{t:TypeId}{x i d:D}(h:z11 P (hmG own a H) t x i=some d):z11 P H t x i=some d:=by
 unfold z11 at h⊢;cases c:z3g P t with
 |some e =>
  rw[c]at h;cases x<;>first|(exact h;done)|skip
  all_goals (cases i<;>first|(exact h;done)|(cases h;done)|(simp only[reduceCtorEq]at h;done)|skip)
  all_goals
   simp only at h⊢;split at h
   ·rename_i b;rw[zxe b];exact h
   ·cases h
 |none=>rw[c]at h;exact h
theorem lenG_some{P:Program}{own:List Nat}{a:Option Nat}{H:HM}{t:TypeId}{x d:D}(h:lenD P (hmG own a H) t x=some d):lenD P H t x=some d:=by
 unfold lenD at h⊢;cases x<;>first|(exact h;done)|(cases h;done)|skip
 all_goals
  simp only at h⊢;split at h
  ·rename_i b;rw[zxe b];exact h
  ·cases h
def z9l:List Nat->Nat->Nat->Bool
 |[],k,n=>k==n
 |i::a,k,n=>i==k&&z9l a (k+1) n
def St.keep(st:St)(d:Option D):Option (D×HM×Nat):=d.map fun d=>(d,st.H,st.nx)
def zku(P:Program)(t:TypeId):D->Option Obj
 | .str s=>if strT P t=true then some (.stringIter s 0) else none
 |_=>none
def zv8(H:HM)(nx:Nat)(b:Bool):D->Option (D×HM×Nat)
 | .it id=>match H id,b with
  |some (.raw (.stringIter s p)),true=>if p<s.size then some (.tup [.bool true,.int .i64 p,.int .i32 (Utf8.decode s p).1],z0m H id (some (.raw (.stringIter s (p+(Utf8.decode s p).2)))),nx)
    else some (.tup [.bool false],H,nx)
  |_,_=>none
 |_=>none
def zxf(s:ByteArray):List D:=s.data.toList.map fun b=>.int .u8 b.toNat
def zkv:List D->Option (List UInt8)
 |[]=>some []
 | .int .u8 n::l=>if 0<=n/\n<=255 then (zkv l).map (UInt8.ofNat n.toNat :: ·) else none
 |_=>none
def u8T(P:Program)(t:TypeId):Bool:=match z3g P t with
 |some e=>match intT P e with
  |some .u8=>true
  |_=>false
 |none=>false
def convS(P:Program)(b a:TypeId):D->Option D
 | .str s=>if strT P b=true/\u8T P a=true/\s.size<=9223372036854775807 then some (.rsl true 1 (zxf s)) else none
 | .rsl _ 1 c=>if u8T P b=true/\strT P a=true then (zkv c).map fun l=>.str ⟨l.toArray⟩ else none
 |_=>none
def convD(P:Program)(b a:TypeId)(x:D):Option D :=
 match intT P b,intT P a,x with
 |some _,some k,.int _ n=>some (.int k (k.wrap n))
 |_,_,d=>convS P b a d
def opR(P:Program)(own:List Nat)(o:Oper)(st:St):Option (D×HM×Nat) :=
 match o.op with
 | .move x=>some (st.ev x,st.H,st.nx)
 | .assign x =>
  match st.ev x with
  | .nil=>if zlk own o.dst=true then (z3g P o.type).map fun e=>(.osl st.nx 0,z0m st.H st.nx (some (.row e 0 [])),st.nx+1) else some (.nil,st.H,st.nx)
  |d=>some (d,st.H,st.nx)
 | .pick c a b=>st.keep (zlj (st.ev c) (st.ev a) (st.ev b))
 | .alloc e=>(z4t P e).map fun C=>(.ptr st.nx 0,z0m st.H st.nx (some (.box e C)),st.nx+1)
 | .box e x=>(z5g (st.ev x)).map fun n=>(.ptr st.nx 0,z0m st.H st.nx (some (.box e n)),st.nx+1)
 | .build t g=>st.keep (zb6 P t (g.toList.map fun(i,x)=>(i,st.ev x)))
 | .buildSlice t h g =>
  match z3g P t with
  |some e =>
   let j:=g.toList.map fun x=>st.ev x.2
   if z0d P e≠0/\z9l (g.toList.map (·.1)) 0 h=true/\h*z0d P e<=16777216/\(h=0 \/ z5f P e=true) then
    (z21 (z0d P e) j).bind fun n =>
     if zlk own o.dst=true then some (.osl st.nx h,z0m st.H st.nx (some (.row e h n)),st.nx+1)
     else if z0s 1000000 own o.dst=true/\h=0 then some (.e0,st.H,st.nx)
     else some (.rsl true (z0d P e) j,st.H,st.nx)
   else none
  |none=>none
 | .load t p=>st.keep (zed P own o.dst st.H st.nx t (st.ev p))
 | .store t p v=>(z7w P st.H t (st.ev p) (st.ev v)).map fun H=>(.any,H,st.nx)
 | .binOp A t x y _=>st.keep (binD P A t (st.ev x) (st.ev y))
 | .unOp A _ x=>st.keep (unD A (st.ev x))
 | .convert B w x=>st.keep (convD P B w (st.ev x))
 | .makeFunc G first cap=>match G with
  | .func f=>if first.size=0 then some (.fn f (cap.toList.map st.ev),st.H,st.nx) else if cap.size=0 then some (.bfn f (first.toList.map st.ev),st.H,st.nx) else none
  |_=>none
 | .makeMap t none=>(zxd P t).map fun _=>(.mp st.nx,z0m st.H st.nx (some (.map [])),st.nx+1)
 | .range t x=>(zku P t (st.ev x)).map fun q=>(.it st.nx,z0m st.H st.nx (some (.raw q)),st.nx+1)
 | .next x b=>zv8 st.H st.nx b (st.ev x)
 | .lookup t x k K=>st.keep (zec P st.H t (st.ev x) (st.ev k) K)
 | .mapUpdate t m k x=>(zci P st.H t (st.ev m) (st.ev k) (st.ev x)).map fun H=>(.any,H,st.nx)
 | .insert t m k x=>(zci P st.H t (st.ev m) (st.ev k) (st.ev x)).map fun H=>(.any,H,st.nx)
 | .makeSlice t l c =>
  match z3g P t,st.ev l,st.ev c with
  |some e,.int _ l,.int _ c=>if l=c/\0<=l/\l.toNat*z2l P e<=140737488355328/\l<=9223372036854775807/\0<z0d P e then
    (z4t P e).map fun C=>(.osl st.nx l.toNat,z0m st.H st.nx (some (.row e l.toNat (Z8 l.toNat C).flatten)),st.nx+1) else none
  |_,_,_=>none
 | .slice t x F E J=>match J with
  |none=>st.keep (zdn P t (st.ev x) (F.map st.ev) (E.map st.ev))
  |some m=>st.keep (zax P t (st.ev x) (F.map st.ev) (E.map st.ev) (st.ev m))
 | .fieldAddr s x f=>st.keep (z4x P s (st.ev x) f)
 | .field t x f=>match z19 P t f,st.ev x with
  |some (o,I),.agg r=>st.keep (z9j P I r o)
  |_,_=>none
 | .indexAddr t x i=>st.keep (z11 P (hmG own o.dst st.H) t (st.ev x) (st.ev i))
 | .index t x i=>st.keep (zdm P t (st.ev x) (st.ev i))
 | .extract x i=>match st.ev x with
  | .tup r=>st.keep r[i]?
  |_=>none
 | .nilCheck x=>match st.ev x with
  | .rptr d=>some (.rptr d,st.H,st.nx)
  | .ptr id z=>some (.ptr id z,st.H,st.nx)
  |_=>none
 | .call c=>match c.callee with
  | .builtin b=>match b,c.args.toList,c.argTypes.toList with
   | .len,[x],[t]=>st.keep (lenD P (hmG own o.dst st.H) t (st.ev x))
   | .max,[x,y],_=>st.keep (maxD (st.ev x) (st.ev y))
   | .min,[x,y],_=>st.keep (minD (st.ev x) (st.ev y))
   | .append,[x,y],[t,u]=>if t=u then
     (if z0s 1000000 own o.dst=true then st.keep (zkr P st.H t (st.ev x) (st.ev y))
     else if z0s 2000000 own o.dst=true then (z8z P st.H st.nx t (st.ev x) (st.ev y)).bind (zks P)
     else z8z P st.H st.nx t (st.ev x) (st.ev y)) else none
   |_,_,_=>none
  |_=>none
 |_=>none

end Abs
namespace Abs
open Go.RowKit

theorem zsq{w w':World}{a:Nat}{e:TypeId}{sz:Nat}{v:Value}{n:Nat}{vs:List Value}
  (i:∀b,blockOf v=some b->w'.heap[b]?=w.heap[b]?) (h:w.ownsRow a e sz v n vs):w'.ownsRow a e sz v n vs:=by
 refine⟨h.1,?_⟩;rcases h.2 with f|⟨g,cap,c,d,j,k,r⟩
 ·exact .inl f
 ·exact .inr ⟨g,cap,c,d,j,by rw[i g (by rw[d];rfl)];exact k,r⟩

theorem objOK.mono{P:Program}{s s':RS}{w w':World}{v:Value}{o:HObj}(g:Later s s')
  (f:∀b,blockOf v=some b->w'.heap[b]?=w.heap[b]?) (h:objOK P s w v o):objOK P s' w' v o:=by
 cases o with
 |box e m =>
  obtain⟨b,k,hv,d,j,a⟩:=h;exact⟨b,k,hv,by rw[f b (by rw[hv];rfl)];exact d,relAll.later g _ _ j,a⟩
 |row e n m =>
  obtain⟨k,p,j,a⟩:=h;exact⟨k,zsq f p,relAll.later g _ _ j,a⟩
 |map t =>
  obtain⟨r,i,c,hv,d,a,l⟩:=h;exact⟨r,i,c,hv,by rw[f r (by rw[hv];rfl)];exact d,relAll.later g _ _ a,relAll.later g _ _ l.1,l.2⟩
 |raw q =>
  obtain⟨r,hv,d⟩:=h;exact⟨r,hv,by rw[f r (by rcases hv with hv|hv<;>rw[hv]<;>rfl)];exact d⟩
theorem za7{w:World}{b:Nat}{o:Obj}(h:w.heap[b]?=some o):b<w.heap.size:=(ZO.1 h).1
theorem objOK.lt{P:Program}{s:RS}{w:World}{v:Value}{o:HObj}(h:objOK P s w v o){b:Nat}(a:blockOf v=some b):b<w.heap.size:=by
 cases o with
 |box e f =>
  obtain⟨m,l,hv,d,_⟩:=h;rw[hv]at a;cases a;exact za7 d
 |row e n f =>
  obtain⟨l,k,_⟩:=h;rcases k.2 with ⟨hv,_⟩|⟨g,cap,i,hv,_,d,_⟩
  ·rw[hv]at a;cases a
  ·rw[hv]at a;cases a;exact za7 d
 |map p =>
  obtain⟨r,j,c,hv,d,_⟩:=h;rw[hv]at a;cases a;exact za7 d
 |raw q =>
  obtain⟨r,hv,d⟩:=h;rcases hv with hv|hv<;>rw[hv]at a<;>cases a<;>exact za7 d
theorem RH.owned_lt{P:Program}{s:RS}{w:World}(h:RH P s w){k:Nat}(d:owned s k):k<w.heap.size:=by
 obtain⟨id,_,b,c⟩:=d;cases a:s.H id with
 |none=>exact(b a).elim
 |some o=>exact(h.obj id o a).2.lt c
theorem RH.mem_lt{P:Program}{s:RS}{w:World}(h:RH P s w){a:Addr}{v:Value}(b:s.m a=some v):a.block<w.heap.size :=
 World.block_lt_of_cell? w a (h.mem a v b).1
theorem z6f{w w':World}{a:Addr}(h:w'.heap[a.block]?=w.heap[a.block]?):w'.cell? a=w.cell? a:=World.cell?_of_block h

structure Grew (w w':World):Prop where
 os:w'.os=w.os
 tape:w'.tape=w.tape
 output:w'.output=w.output
 size:w.heap.size<=w'.heap.size
 old:∀k,k<w.heap.size->w'.heap[k]?=w.heap[k]?
theorem Grew.refl(w:World):Grew w w:=⟨rfl,rfl,rfl,Z2 _,fun _ _=>rfl⟩
theorem Grew.alloc(w:World)(o:Obj):Grew w (w.alloc o):=⟨rfl,rfl,rfl,by simp,fun k a=>Below.heap_alloc w o k a⟩
theorem Grew.drew{w w':World}(h:Grew w w'):Grew w.drew w':=⟨h.os,h.tape,h.output,h.size,h.old⟩
theorem Grew.of_drew{w w':World}(h:Grew w.drew w'):Grew w w':=⟨h.os,h.tape,h.output,h.size,h.old⟩

def RS.add(s:RS)(v:Value)(o:HObj):RS:={ s with κ:=fun j=>if j=s.nx then v else s.κ j,H:=z0m s.H s.nx (some o),nx:=s.nx+1 }

theorem RH.fresh{P:Program}{s:RS}{w:World}(h:RH P s w){i:Nat}(hi:s.H i≠none):i<s.nx:=by
 cases a:s.H i with
 |none=>exact(hi a).elim
 |some o=>exact(h.obj i o a).1

theorem zcj{P:Program}{s:RS}{w:World}(d:RH P s w)(v:Value)(o:HObj):Later s (s.add v o):=by
 refine⟨by simp[RS.add],fun a u c=>c,fun id b=>?_⟩;have:id≠s.nx:=by omega
 simp only[RS.add,z0m,if_neg this];exact objLe.refl _ _

theorem z7u{P:Program}{s:RS}{w w':World}(h:RH P s w)(p:Grew w w')(o:HObj)(v:Value)
  (C:∀b,blockOf v=some b->w.heap.size<=b) (G:objOK P (s.add v o) w' v o) :
  Step s w (s.add v o) w'/\RH P (s.add v o) w':=by
 have y:=zcj h v o;have n:∀k,owned (s.add v o) k->owned s k \/ w.heap.size<=k:=by
  rintro k ⟨id,I,B,r⟩
  by_cases f:id=s.nx
  ·subst f;simp only[RS.add,if_true]at r;exact .inr (C k r)
  ·simp only[RS.add,z0m,if_neg f]at B r;exact .inl ⟨id,h.fresh B,B,r⟩
 refine⟨⟨p.os,p.tape,p.output,p.size,y.nx,y.mem,fun a u A=>.inl A,y.objs,fun k r _=>p.old k r,n⟩,?_,?_,?_,fun g=>rel.later y _ _ (h.glob g)⟩
 ·intro a u A;have F:=h.mem_lt A;obtain⟨q,l⟩:=h.mem a u A;refine⟨by rw[z6f (p.old _ F)];exact q,fun J=>?_⟩;rcases n _ J with h3|h3
  ·exact l h3
  ·omega
 ·intro id K m
  by_cases f:id=s.nx
  ·subst f;simp only[RS.add,z0m,if_true,Z0]at m⊢;subst m;exact⟨by omega,G⟩
  ·simp only[RS.add,z0m,if_neg f]at m⊢;obtain⟨q,l⟩:=h.obj id K m;exact⟨by omega,l.mono y fun b E=>p.old b (l.lt E)⟩
 ·intro i j f x t d
  by_cases q:i=s.nx
  ·subst q;have l:j≠s.nx:=fun e=>t e.symm;simp only[RS.add,z0m,if_true,if_neg l]at f x d⊢;intro e;cases c:blockOf v with
   |none=>exact d c
   |some b =>
    cases z:s.H j with
    |none=>exact x z
    |some M =>
     have:=(h.obj j M z).2.lt (b:=b) (by rw[<-e,c]);have:=C b c;omega
  ·by_cases l:j=s.nx
   ·subst l;simp only[RS.add,z0m,if_true,if_neg q]at f x d⊢;intro e;cases c:blockOf v with
    |none=>rw[c]at e;exact d e
    |some b =>
     cases z:s.H i with
     |none=>exact f z
     |some L =>
      have:=(h.obj i L z).2.lt (b:=b) (by rw[e,c]);have:=C b c;omega
   ·simp only[RS.add,z0m,if_neg q,if_neg l]at f x d⊢;exact h.apart i j f x t d

def RS.grow(s:RS)(w w':World):RS:={ s with m:=fun a=>if a.block<w.heap.size then s.m a else w'.cell? a }

theorem zck{P:Program}{s:RS}{w w':World}(h:RH P s w)(e:Grew w w') :
  Step s w (s.grow w w') w'/\RH P (s.grow w w') w':=by
 have d:∀a v,s.m a=some v->(s.grow w w').m a=some v:=by
  intro a v c;simp only[RS.grow,if_pos (h.mem_lt c)];exact c
 have p:Later s (s.grow w w'):=⟨Z2 _,d,fun id _=>objLe.refl _ _⟩
 refine⟨⟨e.os,e.tape,e.output,e.size,Z2 _,d,fun a v c=>?_,fun id _=>objLe.refl _ _,fun k q _=>e.old k q,fun k i=>.inl i⟩,?_,?_,?_,fun g=>rel.later p _ _ (h.glob g)⟩
 ·simp only[RS.grow]at c;split at c
  ·exact .inl c
  ·exact .inr (.inl (by omega))
 ·intro a v c;simp only[RS.grow]at c;split at c
  ·rename_i f;obtain⟨l,j⟩:=h.mem a v c;exact⟨by rw[z6f (e.old _ f)];exact l,j⟩
  ·rename_i f;refine⟨c,fun i=>f (h.owned_lt i)⟩
 ·intro id o i;obtain⟨l,j⟩:=h.obj id o i;exact⟨l,j.mono p fun b n=>e.old b (j.lt n)⟩
 ·exact h.apart

theorem zkw{P:Program}{s:RS}{w w':World}(h:RH P s w)(d:w'.heap=w.heap)(i:w'.os=w.os)(l:w'.tape=w.tape)(c:w'.output=w.output) :
  Step s w s w'/\RH P s w':=by
 refine⟨⟨i,l,c,by rw[d];exact Z2 _,Z2 _,fun _ _ h=>h,fun _ _ h=>.inl h,fun _ _=>objLe.refl _ _,fun k _ _=>by rw[d],fun _ h=>.inl h⟩,?_,?_,h.apart,h.glob⟩
 ·intro a v g;obtain⟨e,f⟩:=h.mem a v g;exact⟨by rw[z6f (w:=w) (w':=w') (by rw[d])];exact e,f⟩
 ·intro id o j;obtain⟨e,f⟩:=h.obj id o j;exact⟨e,f.mono ⟨Z2 _,fun _ _ h=>h,fun _ _=>objLe.refl _ _⟩ fun b _=>by rw[d]⟩

def RS.set(s:RS)(id:Nat)(v:Value)(o:HObj):RS:={ s with κ:=fun j=>if j=id then v else s.κ j,H:=z0m s.H id (some o) }

theorem z90{P:Program}{s:RS}{w w':World}(h:RH P s w)(id:Nat)(o o':HObj)(v:Value)(f:s.H id=some o)
  (N:w'.os=w.os) (U:w'.tape=w.tape) (G:w'.output=w.output) (O:w.heap.size<=w'.heap.size)
  (q:∀k,k<w.heap.size->some k≠blockOf (s.κ id)->w'.heap[k]?=w.heap[k]?)
  (K:objLe (some o) (some o') (s.κ id) v)
  (J:∀b,blockOf v=some b->blockOf (s.κ id)=some b \/ w.heap.size<=b) (z:Later s (s.set id v o')->objOK P (s.set id v o') w' v o') :
  Step s w (s.set id v o') w'/\RH P (s.set id v o') w':=by
 have m:=(h.obj id o f).1;have C:Later s (s.set id v o'):=by
  refine⟨Z2 _,fun a u E=>E,fun j r=>?_⟩
  by_cases d:j=id
  ·subst d;simp only[RS.set,z0m,if_true];rw[f];exact K
  ·simp only[RS.set,z0m,if_neg d];exact objLe.refl _ _
 have z:=z C;have t:∀k,owned (s.set id v o') k->owned s k \/ w.heap.size<=k:=by
  rintro k ⟨j,r,R,B⟩
  by_cases d:j=id
  ·subst d;simp only[RS.set,if_true]at B;rcases J k B with h1|h1
   ·exact .inl ⟨j,m,by rw[f];simp,h1⟩
   ·exact .inr h1
  ·simp only[RS.set,z0m,if_neg d]at R B;exact .inl ⟨j,r,R,B⟩
 refine⟨⟨N,U,G,O,C.nx,C.mem,fun a u E=>.inl E,C.objs,fun k B M=>q k B (fun e=>M ⟨id,m,by rw[f];simp,e.symm⟩),t⟩,?_,?_,?_,fun g=>rel.later C _ _ (h.glob g)⟩
 ·intro a u E;have y:=h.mem_lt E;obtain⟨h1,n⟩:=h.mem a u E;have L:some a.block≠blockOf (s.κ id):=fun e=>n ⟨id,m,by rw[f];simp,e.symm⟩;refine⟨by rw[z6f (q _ y L)];exact h1,fun M=>?_⟩;rcases t _ M with h3|h3
  ·exact n h3
  ·omega
 ·intro j Q p
  by_cases d:j=id
  ·subst d;simp only[RS.set,z0m,if_true,Z0]at p⊢;subst p;exact⟨m,z⟩
  ·simp only[RS.set,z0m,if_neg d]at p⊢;obtain⟨h1,n⟩:=h.obj j Q p;refine⟨h1,n.mono C fun b x=>q b (n.lt x) fun e=>?_⟩;exact h.apart j id (by rw[p];simp) (by rw[f];simp) d (by rw[x];simp) (by rw[x,e])
 ·intro i j A r F l
  by_cases h1:i=id
  ·subst h1;have n:j≠i:=fun e=>F e.symm;simp only[RS.set,z0m,if_true,if_neg n]at A r l⊢;intro e;cases c:blockOf v with
   |none=>exact l c
   |some b =>
    cases I:s.H j with
    |none=>exact r I
    |some Q =>
     have y:=(h.obj j Q I).2.lt (b:=b) (by rw[<-e,c]);rcases J b c with h3|h3
     ·exact h.apart j i r (by rw[f];simp) n (by rw[<-e,c];simp) (by rw[<-e,c,h3])
     ·omega
  ·by_cases n:j=id
   ·subst n;simp only[RS.set,z0m,if_true,if_neg h1]at A r l⊢;intro e;cases c:blockOf v with
    |none=>rw[c]at e;exact l e
    |some b =>
     cases I:s.H i with
     |none=>exact A I
     |some W =>
      have y:=(h.obj i W I).2.lt (b:=b) (by rw[e,c]);rcases J b c with h3|h3
      ·exact h.apart i j A (by rw[f];simp) h1 l (by rw[e,c,h3])
      ·omega
   ·simp only[RS.set,z0m,if_neg h1,if_neg n]at A r l⊢;exact h.apart i j A r F l

end Abs
namespace Abs
open Go.RowKit
variable {P:Program}

theorem zon:z7a []:=fun _ h=>by cases h
theorem ones_one{v:Value}(h:v.oneCell'=true):z7a [v]:=by
 intro u a;simp at a;subst a;exact h
theorem z32{vs us:List Value}(h:z7a vs)(a:z7a us):z7a (vs++us):=by
 intro u b;rcases Y6.1 b with h1|h1
 ·exact h u h1
 ·exact a u h1
theorem z91{vs:List Value}(h:z7a vs)(n:Nat):z7a (vs.take n):=fun u a=>h u (List.mem_of_mem_take a)
theorem za8{vs:List Value}(h:z7a vs)(n:Nat):z7a (vs.drop n):=fun u a=>h u (List.mem_of_mem_drop a)
theorem z2v{v:Value}(h:v.oneCell'=true):v.cells = #[v]:=by cases v<;>simp_all [Value.cells,Value.oneCell']

theorem zcl{s:RS}{d:D}{v:Value}{ds:List D}(h:rel s d v)(e:z5g d=some ds):relAll s ds v.cells.toList/\z7a v.cells.toList:=by
 have c:∀(d:D),z5g d=some [d]->v.oneCell'=true->rel s d v->z5g d=some ds->relAll s ds v.cells.toList/\z7a v.cells.toList:=by
  intro d o g l m;rw[o]at m;cases m;rw[z2v g];exact⟨z0y l z15,ones_one g⟩
 cases d with
 |any=>simp[z5g]at e
 |tup ds=>simp[z5g]at e
 |agg r =>
  simp only[z5g,Z0]at e;subst e;simp only[rel]at h;obtain⟨i,rfl,g,l⟩:=h;simp only[Value.cells];exact⟨g,l⟩
 |int k n=>exact c _ rfl (by simp only[rel]at h;subst h;rfl) h e
 |bool b=>exact c _ rfl (by simp only[rel]at h;subst h;rfl) h e
 |str b=>exact c _ rfl (by simp only[rel]at h;subst h;rfl) h e
 |nil=>exact c _ rfl (by simp only[rel]at h;subst h;rfl) h e
 |nptr=>exact c _ rfl (by simp only[rel]at h;subst h;rfl) h e
 |nfun=>exact c _ rfl (by simp only[rel]at h;subst h;rfl) h e
 |nmp=>exact c _ rfl (by simp only[rel]at h;subst h;rfl) h e
 |e0=>exact c _ rfl (by simp only[rel]at h;obtain⟨a,rfl⟩:=h;rfl) h e
 |rsl t q j =>
  refine c _ rfl ?_ h e;simp only[rel]at h;rcases h with ⟨_,_,rfl⟩|⟨a,cap,i,rfl,_⟩<;>rfl
 |rptr d =>
  refine c _ rfl ?_ h e;simp only[rel]at h;obtain⟨a,u,rfl,_⟩:=h;rfl
 |fsl q j =>
  refine c _ rfl ?_ h e;simp only[rel]at h;rcases h with ⟨_,rfl⟩|⟨a,i,rfl,_⟩<;>rfl
 |fn f cap =>
  refine c _ rfl ?_ h e;simp only[rel]at h;obtain⟨i,rfl,_⟩:=h;rfl
 |bfn f first =>
  refine c _ rfl ?_ h e;simp only[rel]at h;obtain⟨i,rfl,_⟩:=h;rfl
 |osl id n=>exact c _ rfl (by simp only[rel]at h;obtain⟨_,g,_⟩:=h;first|(obtain⟨_,rfl⟩:=g;rfl)|(obtain⟨_,_,rfl⟩:=g;rfl)) h e
 |ptr id n=>exact c _ rfl (by simp only[rel]at h;obtain⟨_,g,_⟩:=h;first|(obtain⟨_,rfl⟩:=g;rfl)|(obtain⟨_,_,rfl⟩:=g;rfl)) h e
 |eptr id n p=>exact c _ rfl (by simp only[rel]at h;obtain⟨_,g,_⟩:=h;first|(obtain⟨_,rfl⟩:=g;rfl)|(obtain⟨_,_,rfl⟩:=g;rfl)) h e
 |mp id=>exact c _ rfl (by simp only[rel]at h;obtain⟨_,g,_⟩:=h;first|(obtain⟨_,rfl⟩:=g;rfl)|(obtain⟨_,_,rfl⟩:=g;rfl)) h e
 |it id=>exact c _ rfl (by simp only[rel]at h;obtain⟨_,g,_⟩:=h;first|(obtain⟨_,rfl⟩:=g;rfl)|(obtain⟨_,_,rfl⟩:=g;rfl)) h e

theorem zgw(s:RS)(v:Value):rel s (zhi v) v:=by
 unfold zhi;split<;>simp[rel]
theorem zsr(s:RS)(v:Value):rel s (z006 v) v:=by
 unfold z006;split
 ·rename_i c;split
  ·rename_i h;simp only[rel];refine⟨c.toList,by simp,?_,fun u a=>by simpa using Zu.1 h u a⟩;refine z6u (by simp) fun i d u b a=>?_;simp only[Ze,a,Zf,Z0]at b;subst b;exact zgw s u
  ·simp[rel]
 ·exact zgw s v
theorem zdo(s:RS)(vs:List Value):relAll s (vs.map zhi) vs:=by
 refine z6u (by simp) fun i d u a b=>?_;simp only[Ze,b,Zf,Z0]at a;subst a;exact zgw s u

theorem z6v{t:TypeId}(h:z0r P t=true):(∃a,P.underlying t=some (.struct a)) \/ ∃n e,P.underlying t=some (.array n e):=by
 unfold z0r at h;split at h
 ·rename_i a b;exact .inl ⟨a,b⟩
 ·rename_i n e b;exact .inr ⟨n,e,b⟩
 ·cases h
theorem z9m{t:TypeId}(h:z0r P t=true)(w:World):(isAgg t).run P w=.ok true w:=by
 rcases z6v h with ⟨b,a⟩|⟨n,e,a⟩<;>simp[isAgg,run_underlying a]
theorem z92{t:TypeId}(h:z3a P t=true)(w:World):(isAgg t).run P w=.ok false w:=by
 unfold z3a at h;cases a:P.underlying t with
 |none=>rw[a]at h;cases h
 |some d =>
  rw[a]at h;cases d<;>first|(cases h;done)|simp[isAgg,run_underlying a]
theorem zfx{t:TypeId}{d:TypeDesc}(h:P.underlying t=some d):∃i,P.info? t=some i:=by
 unfold Program.underlying at h;cases a:P.info? t with
 |none=>rw[a]at h;cases h
 |some i=>exact⟨i,rfl⟩
theorem z2e{t:TypeId}{i:TypeInfo}(h:P.info? t=some i)(w:World):(sizeOf t).run P w=.ok (z0d P t) w:=by
 simp[sizeOf,typeInfo,h,z0d]
theorem zcm{t:TypeId}{d:TypeDesc}(h:P.underlying t=some d)(w:World):(sizeOf t).run P w=.ok (z0d P t) w:=by
 obtain⟨i,a⟩:=zfx h;exact z2e a w
theorem z2g{t:TypeId}(h:z0d P t≠0):∃i,P.info? t=some i:=by
 unfold z0d at h;cases a:P.info? t with
 |none=>rw[a]at h;simp at h
 |some i=>exact⟨i,rfl⟩

theorem relAll_seg{s:RS}{cs:List D}{vs:List Value}(h:relAll s cs vs)(off n:Nat):relAll s ((cs.drop off).take n) ((vs.drop off).take n):=z4k n (z6b off h)

theorem z6w{s:RS}{t:TypeId}{cs:List D}{vs:List Value}{off:Nat}{d:D}(h:z9j P t cs off=some d)(o:relAll s cs vs)(q:z7a vs) :
  ∃u,rel s d u/\(∀j c,u.cells.toList[j]?=some c->vs[off+j]?=some c) /\
   (∀(w:World) (a:Addr),(∀j c,u.cells.toList[j]?=some c->w.cell? (a.add j)=some c)->(loadVar t a).run P w=.ok u w) /\
   (∀w,(part t vs.toArray off).run P w=.ok u w):=by
 have r:=z0j o;unfold z9j at h;split at h
 ·rename_i b;split at h
  ·rename_i y;simp only[Z0]at h;subst h;refine⟨.agg ((vs.drop off).take (z0d P t)).toArray,?_,?_,?_,?_⟩
   ·simp only[rel];exact⟨_,rfl,relAll_seg o _ _,z91 (za8 q _) _⟩
   ·intro j c g;simp only[Value.cells,Zb,Zd]at g;split at g
    ·exact g
    ·cases g
   ·intro w a m;have x:((vs.drop off).take (z0d P t)).length=z0d P t:=by simp;omega
    have f:=run_loadCells_list (P:=P) w a ((vs.drop off).take (z0d P t)) (by simpa [Value.cells] using m);rw[x]at f
    rcases z6v b with ⟨v,i⟩|⟨n,e,i⟩ <;>
     simp[loadVar,z9m b,zcm i,f]
   ·intro w;rcases z6v b with ⟨v,i⟩|⟨n,e,i⟩ <;>
    ·simp only[part,Sem.run_bind,z9m b,Result.andThen_ok,if_true,zcm i,Sem.run_pure]
     congr 2
     apply ZE;simp
  ·cases h
 ·split at h
  ·rename_i k;obtain⟨u,i,p⟩:=z38 o off d h;have l:u.oneCell'=true:=q u (List.mem_of_getElem? i);refine⟨u,p,?_,?_,?_⟩
   ·intro j c g;rw[z2v l]at g;cases j with
    |zero=>simp at g;subst g;simpa using i
    |succ j=>simp at g
   ·intro w a m;have:=m 0 u (by rw[z2v l];simp);simp only[Addr.add,if_true]at this;simp[loadVar,z92 k,this]
   ·intro w;simp[part,z92 k,i]
  ·cases h

def Ran(P:Program)(s:RS)(w:World)(e:Sem Next)(d:D)(H:HM)(nx:Nat):Prop :=
 ∃v a b,(e.run P w=.ok (.value v) b \/ (e.run P w=.ok .skip b/\v=undef))/\Step s w a b/\RH P a b/\a.H=H/\a.nx=nx/\rel a d v

theorem zay{s:RS}{w:World}{e:Sem Next}{d:D}{v:Value}(h:RH P s w)(b:e.run P w=.ok (.value v) w)(a:rel s d v):Ran P s w e d s.H s.nx :=
 ⟨v,s,w,.inl b,Step.refl s w,h,rfl,rfl,a⟩
theorem ran_value{s:RS}{w:World}{x:Sem Value}{d:D}{v:Value}(h:RH P s w)(b:x.run P w=.ok v w)(a:rel s d v) :
  Ran P s w (do pure (.value (<-x))) d s.H s.nx :=
 zay h (by simp[b]) a

theorem zfy{s:RS}{w:World}(h:RH P s w){id:Nat}{e:TypeId}{cs:List D}(d:s.H id=some (.box e cs)) :
  ∃b a,s.κ id=.pointer (some ⟨b,0,none⟩)/\w.heap[b]?=some (.cells (ZQ a) e (0,0))/\relAll s cs a/\z7a a /\
   ∀j c,a[j]?=some c->w.cell? ⟨b,j,none⟩=some c:=by
 obtain⟨b,a,l,f,k,g⟩:=(h.obj id _ d).2;refine⟨b,a,l,f,k,g,fun j c i=>?_⟩;rw[cell_of_row w b j _ e (0,0) f];simpa using i
theorem z3w{s:RS}{w:World}(h:RH P s w){id:Nat}{e:TypeId}{n:Nat}{cs:List D}(i:s.H id=some (.row e n cs)) :
  ∃a,w.ownsRow 0 e (z0d P e) (s.κ id) n a/\relAll s cs a/\z7a a/\cs.length=n*z0d P e /\
   ∀b,blockOf (s.κ id)=some b->∀j c,a[j]?=some c->w.cell? ⟨b,j,none⟩=some c:=by
 obtain⟨a,k,m,p⟩:=(h.obj id _ i).2;refine⟨a,k,m,p,by rw[<-z0j m];exact k.1,fun b d j c f=>?_⟩;rcases k.2 with ⟨l,_⟩|⟨g,cap,o,l,_,q,_,_,_,r⟩
 ·rw[l]at d;cases d
 ·rw[l]at d;cases d;rw[cell_of_row w g j _ e (0,0) q];rw[<-r,Zb]at f;split at f
  ·simpa using f
  ·cases f
theorem z1i(b off j:Nat):(⟨b,off,none⟩:Addr).add j=⟨b,off+j,none⟩:=by
 unfold Addr.add;split
 ·rename_i h;subst h;rfl
 ·rfl
theorem z7m(a:Addr)(n m:Nat):(a.add n).add m=a.add (n+m):=by
 unfold Addr.add
 by_cases b:n=0
 ·subst b;simp
 ·by_cases c:m=0
  ·subst c;simp[b]
  ·simp[b,c,Y7]

theorem fits_load{s:RS}{t:TypeId}{d:D}{u:Value}(l:z9k P t d=true)(f:rel s d u)(w:World)(a:Addr)
  (o:∀j c,u.cells.toList[j]?=some c->w.cell? (a.add j)=some c):(loadVar t a).run P w=.ok u w:=by
 have m:z3a P t=true->u.oneCell'=true->(loadVar t a).run P w=.ok u w:=by
  intro x k;have:=o 0 u (by rw[z2v k];simp);simp only[Addr.add,if_true]at this;simp[loadVar,z92 x,this]
 have h:(∀i,d ≠ .agg i)->(∀i,d ≠ .tup i)->d ≠ .any->z3a P t=true->(loadVar t a).run P w=.ok u w:=by
  intro q r v k;refine m k ?_;cases d<;>first|exact(q _ rfl).elim|exact(r _ rfl).elim|exact(v rfl).elim|skip
  all_goals simp only[rel]at f
  all_goals first
   |(subst f;rfl)
   |(rcases f with ⟨_,_,rfl⟩|⟨_,_,_,rfl,_⟩<;>rfl)
   |(rcases f with ⟨_,rfl⟩|⟨_,_,rfl,_⟩<;>rfl)
   |(obtain⟨_,⟨_,rfl⟩,_⟩:=f;rfl)
   |(obtain⟨_,⟨_,_,rfl⟩,_⟩:=f;rfl)
   |(obtain⟨_,_,rfl,_⟩:=f;rfl)
   |(obtain⟨_,rfl,_⟩:=f;rfl)
 cases d with
 |agg i =>
  simp only[z9k,Zc,beq_iff_eq]at l;obtain⟨g,y⟩:=l;simp only[rel]at f;obtain⟨z,rfl,k,B⟩:=f;have b:=run_loadCells_list (P:=P) w a z (by simpa [Value.cells] using o);rw[z0j k,y]at b
  rcases z6v g with ⟨A,p⟩|⟨n,e,p⟩ <;>
   simp[loadVar,z9m g,zcm p,b]
 |any=>simp[z9k]at l
 |tup i=>simp[z9k]at l
 |_=>exact h (by simp) (by simp) (by simp) (by simpa [z9k] using l)

theorem zn0{s:RS}{w:World}(h:RH P s w){t:TypeId}{p d:D}{v:Value}(f:z5y P s.H t p=some d)(r:rel s p v) :
  ∃u,(Instr.loadAt t v).run P w=.ok u w/\rel s d u:=by
 unfold z5y at f;split at f
 ·rename_i id F;cases g:s.H id with
  |none=>rw[g]at f;cases f
  |some o =>
   rw[g]at f;cases o with
   |box e A =>
    simp only at f;obtain⟨b,L,K,O,y,B,i⟩:=zfy h g;simp only[rel]at r;obtain⟨_,_,r⟩:=r;obtain⟨M,x,rfl⟩:=r _ _ g;rw[K]at x;cases x;obtain⟨u,E,m,l,_⟩:=z6w f y B;refine⟨u,?_,E⟩;simp only[Instr.loadAt,Instr.sureAddr,Sem.run_bind,Sem.run_pure,Result.andThen_ok];exact l w _ fun j c z=>by rw[z1i];exact i _ _ (m j c z)
   |row e n A=>cases f
   |map G=>cases f
   |raw q=>cases f
 ·rename_i id n F;cases g:s.H id with
  |none=>rw[g]at f;cases f
  |some o =>
   rw[g]at f;cases o with
   |row e k A =>
    simp only at f;split at f
    ·rename_i C;subst C;obtain⟨L,Q,y,B,_,i⟩:=z3w h g;simp only[rel]at r;obtain⟨_,_,r⟩:=r;obtain⟨b,x,rfl⟩:=(r _ _ _ g).2 rfl;obtain⟨u,E,m,l,_⟩:=z6w f y B;refine⟨u,?_,E⟩;simp only[Instr.loadAt,Instr.sureAddr,Sem.run_bind,Sem.run_pure,Result.andThen_ok];exact l w _ fun j c z=>by rw[z1i];exact i _ x _ _ (m j c z)
    ·cases f
   |box e A=>cases f
   |map G=>cases f
   |raw q=>cases f
 ·rename_i N;split at f
  ·rename_i J;cases f;simp only[rel]at r;obtain⟨a,u,rfl,y,I⟩:=r;refine⟨u,?_,y⟩;simp only[Instr.loadAt,Instr.sureAddr,Sem.run_bind,Sem.run_pure,Result.andThen_ok];exact fits_load J y w a fun j c z=>(h.mem _ _ (I j c z)).1
  ·cases f
 ·cases f

theorem zkx{s:RS}{w:World}(X:RH P s w){st:TypeId}{p d:D}{v:Value}{f:Nat}(g:z4x P st p f=some d)(m:rel s p v) :
  ∃u,(Instr.fieldAt st v f).run P w=.ok u w/\rel s d u:=by
 unfold z4x at g;cases h:z19 P st f with
 |none=>rw[h]at g;cases g
 |some U =>
  obtain⟨o,t⟩:=U;rw[h]at g;simp only at g;unfold z19 at h;cases J:P.underlying st with
  |none=>rw[J]at h;cases h
  |some q =>
   rw[J]at h;cases q<;>first|(cases h;done)|skip
   rename_i Z;simp only[Z1]at h;obtain⟨E,y,x⟩:=h;simp only[Z3]at x;obtain⟨rfl,rfl⟩:=x;split at g
   ·cases g
   ·rename_i A;obtain⟨i,O⟩:=z2g A;have l:∀a:Addr,(Instr.fieldAt st (.pointer (some a)) f).run P w=.ok (.pointer (some (a.add E.offset))) w:=by
     intro a;simp[Instr.fieldAt,run_underlying J,y,Instr.sureAddr,fieldPlace,z2e O,A]
    cases p<;>first|(cases g;done)|skip
    case ptr id off =>
     simp only[Z0]at g;subst g;simp only[rel]at m;obtain⟨r,⟨a,rfl⟩,B⟩:=m;refine⟨_,l _,?_⟩;simp only[rel];refine⟨r,⟨_,rfl⟩,fun e M C=>?_⟩;obtain⟨b,H,F⟩:=B _ _ C;cases F;exact⟨b,H,by rw[z1i]⟩
    case eptr id n off =>
     simp only[Z0]at g;subst g;simp only[rel]at m;obtain⟨r,⟨a,rfl⟩,B⟩:=m;refine⟨_,l _,?_⟩;simp only[rel];refine⟨r,⟨_,rfl⟩,fun e k M C=>⟨(B _ _ _ C).1,fun I=>?_⟩⟩;obtain⟨b,H,F⟩:=(B _ _ _ C).2 I;cases F;exact⟨b,H,by rw[z1i]⟩
    case rptr L =>
     cases L<;>first|(cases g;done)|skip
     rename_i Y;simp only[Z1]at g;obtain⟨L,G,rfl⟩:=g;simp only[rel]at m;obtain⟨a,u,rfl,⟨vs,rfl,R,r⟩,N⟩:=m;obtain⟨W,K,z,_,_⟩:=z6w G R r;refine⟨_,l _,?_⟩;simp only[rel];refine⟨_,W,rfl,K,fun j c Q=>?_⟩;rw[z7m];exact N _ _ (by simpa [Value.cells] using z j c Q)

end Abs
namespace Abs
open Go.RowKit
variable {P:Program}

theorem zaz{α:Type}:∀(vs cs:List α) (off:Nat),(z1d cs off vs).length=cs.length
 |[],cs,off=>rfl
 |v::vs,cs,off=>by rw[z1d,zaz vs];simp
theorem zcn{α:Type}:∀(vs cs:List α) (off:Nat),off+vs.length<=cs.length->z1d cs off vs=cs.take off++vs++cs.drop (off+vs.length)
 |[],cs,off,_=>by simp[z1d]
 |v::vs,cs,off,h=>by
  simp only[Zv]at h;rw[z1d,zcn vs _ _ (by simp;omega)];apply Zk;intro j;simp only[Zz,Zb,ZF,Zd,Zh,Zl,List.length_set,Zv,List.getElem?_cons]
  by_cases b:j<off
  ·rw[if_pos (by omega),if_pos (by omega),if_pos (by omega),if_neg (by omega),if_pos (by omega),if_pos (by omega),if_pos (by omega)]
  ·by_cases a:j=off
   ·subst a;rw[if_pos (by omega),if_pos (by omega),if_pos (by omega),if_pos rfl,if_pos (by omega),if_pos (by omega),if_neg (by omega),if_pos (by omega)]
   ·by_cases c:j<off+1+vs.length
    ·rw[if_pos (by omega),if_neg (by omega),if_pos (by omega),if_neg (by omega),if_neg (by omega)]
     congr 1;omega
    ·rw[if_neg (by omega),if_neg (by omega),if_neg (by omega)]
     congr 1;omega
theorem z86{s:RS}:∀ {ds:List D}{us:List Value}{cs:List D}{vs:List Value}(off:Nat),relAll s ds us->relAll s cs vs->relAll s (z1d cs off ds) (z1d vs off us)
 |[],us,cs,vs,off,h,a=>by
  simp only[relAll]at h;subst h;exact a
 |d::ds,us,cs,vs,off,h,a=>by
  simp only[relAll]at h;obtain⟨v,r,rfl,b,c⟩:=h;simp only[z1d];exact z86 (off+1) c (zmz a off b)
theorem ones_set{vs:List Value}(h:z7a vs)(n:Nat){v:Value}(b:v.oneCell'=true):z7a (vs.set n v):=by
 intro u a;rcases List.mem_or_eq_of_mem_set a with h1|h1
 ·exact h u h1
 ·subst h1;exact b
theorem zb0:∀ {us vs:List Value}(off:Nat),z7a us->z7a vs->z7a (z1d vs off us)
 |[],vs,off,_,h=>h
 |u::us,vs,off,h,a=>by
  simp only[z1d];exact zb0 (off+1) (fun x b=>h x (Zp _ b)) (ones_set a off (h u (by simp)))

theorem zoo{A:List Value}{N off:Nat}{us:List Value}(h:off+us.length<=N)(d:N<=A.length) :
  (A.take off++us++A.drop (off+us.length)).take N=z1d (A.take N) off us:=by
 rw[zcn _ _ _ (by simp;omega)];apply Zk;intro j;simp only[Zz,Zb,Zd,Zh,Zl]
 by_cases a:j<N
 ·by_cases b:j<off
  ·rw[if_pos a,if_pos (by omega),if_pos (by omega),if_pos (by omega),if_pos (by omega),if_pos (by omega),if_pos (by omega),if_pos (by omega)]
  ·by_cases c:j<off+us.length
   ·rw[if_pos a,if_pos (by omega),if_neg (by omega),if_pos (by omega),if_neg (by omega)]
    congr 1;omega
   ·rw[if_pos a,if_neg (by omega),if_neg (by omega),if_pos (by omega)]
    congr 1;omega
 ·rw[if_neg a,if_neg (by omega),if_neg (by omega)]

theorem zky{t:TypeId}{a:Addr}{u:Value}{w w':World}(hi:∃i,P.info? t=some i)(c:u.cells.size=z0d P t)(b:(storeCells a u.cells.toList 0).run P w=.ok () w') :
  (Instr.storeAt t (.pointer (some a)) u).run P w=.ok () w':=by
 obtain⟨i,hi⟩:=hi;simp[Instr.storeAt,Instr.sureAddr,storeVar,z2e hi,c,b]

theorem zv9{s:RS}{w:World}(h:RH P s w){t:TypeId}{p d:D}{v u:Value}{H:HM}(c:z7w P s.H t p d=some H)(z:rel s p v)(hv:rel s d u) :
  ∃U Q,(Instr.storeAt t v u).run P w=.ok () Q/\Step s w U Q/\RH P U Q/\U.H=H/\U.nx=s.nx:=by
 unfold z7w at c;cases W:z5g d with
 |none=>rw[W]at c;cases c
 |some ds =>
  rw[W]at c;simp only at c;obtain⟨hr,R⟩:=zcl hv W;have y:=z0j hr;split at c
  ·rename_i I;obtain⟨I,a3⟩:=I;have hi:∃i,P.info? t=some i:=z2g (by omega);have O:u.cells.size=z0d P t:=by rw[<-I,<-y];simp
   split at c
   ·rename_i id a;cases f:s.H id with
    |none=>rw[f]at c;cases c
    |some o =>
     rw[f]at c;cases o<;>first|(cases c;done)|skip
     rename_i e J;simp only at c;split at c
     ·rename_i F;simp only[Z0]at c;subst c;obtain⟨b,A,x,K,m,G,_⟩:=zfy h f;simp only[rel]at z;obtain⟨L,_,z⟩:=z;obtain⟨b',M,rfl⟩:=z _ _ f;rw[x]at M;cases M;have Z:=z0j m;have q:=run_storeCells_at P b a e u.cells.toList 0 A.toArray w K (by simp at y⊢;omega) R;have a1:A.take (a+0)++u.cells.toList++A.drop (a+0+u.cells.toList.length)=z1d A a u.cells.toList:=by
       rw[zcn _ _ _ (by omega)];simp
      simp only at q;rw[a1]at q
      obtain⟨j,C⟩:=z90 (w':=w.setRow b (z1d A a u.cells.toList).toArray) h id (.box e J) (.box e (z1d J a ds)) (s.κ id) f rfl rfl rfl (by simp)
       (fun k _ l=>setRow_other w b k _ (by intro e;subst e;rw[x]at l;exact l rfl))
       (by simp[objLe]) (fun b' E=>.inl E)
       (fun Y=>⟨b,z1d A a u.cells.toList,x,setRow_heap w b _ _ e _ K,relAll.later Y _ _ (z86 a hr m),zb0 a R G⟩)
      exact⟨_,_,zky hi O q,j,C,rfl,rfl⟩
     ·cases c
   ·rename_i id n a;cases f:s.H id with
    |none=>rw[f]at c;cases c
    |some o =>
     rw[f]at c;cases o<;>first|(cases c;done)|skip
     rename_i e k J;simp only at c;split at c
     ·rename_i F;obtain⟨a0,F⟩:=F;subst a0;simp only[Z0]at c;subst c;obtain⟨A,ho,m,G,a4,_⟩:=z3w h f;simp only[rel]at z;obtain⟨L,_,z⟩:=z;obtain⟨b,x,rfl⟩:=(z _ _ _ f).2 rfl;have Z:=z0j m;rcases ho.2 with ⟨r,_⟩|⟨g,cap,B,r,_,K,N,X,a5,ht⟩
      ·rw[r]at x;cases x
      ·rw[r]at x;cases x;have a2:n*z0d P e<=cap*z0d P e:=Zq _ N;have q:=run_storeCells_at P g a e u.cells.toList 0 B w K (by omega) R
       obtain⟨j,C⟩:=z90 (w':=w.setRow g (B.toList.take (a+0)++u.cells.toList++B.toList.drop (a+0+u.cells.toList.length)).toArray) h id (.row e n J) (.row e n (z1d J a ds)) (s.κ id) f rfl rfl rfl (by simp)
        (fun k _ l=>setRow_other w g k _ (by intro e;subst e;rw[r]at l;exact l rfl))
        (by simp[objLe]) (fun b' E=>.inl E)
        (fun Y=>⟨z1d A a u.cells.toList,⟨by rw[zaz];exact ho.1,.inr ⟨g,cap,_,r,Zs _,setRow_heap w g _ _ e _ K,N,X,by
          simp only[Y1,Zh,Zl,ZK,Zj];omega,by
          simp only[Zw]
          rw[zoo (by omega) (by simp;omega),ht]⟩⟩,
         relAll.later Y _ _ (z86 a hr m),zb0 a R G⟩)
       exact⟨_,_,zky hi O q,j,C,rfl,rfl⟩
     ·cases c
   ·cases c
  ·cases c

theorem idxD_some{els:List D}{i:Int}{d:D}(h:zv6 els i=some d):0<=i/\i<els.length/\els[i.toNat]?=some d:=by
 unfold zv6 at h;split at h
 ·rename_i a;exact⟨a.1,a.2,h⟩
 ·cases h

theorem z2t{t e:TypeId}(h:z3g P t=some e):P.underlying t=some (.slice e):=by
 unfold z3g at h;split at h
 ·cases h;assumption
 ·cases h
theorem zss{t e:TypeId}{n:Nat}(h:arrT P t=some (n,e)):P.underlying t=some (.array n e):=by
 unfold arrT at h;split at h
 ·cases h;assumption
 ·cases h

theorem z93{t:TypeId}(h:strT P t=true):P.underlying t=some .string:=by
 unfold strT at h;split at h
 ·assumption
 ·cases h
theorem zn1{t:TypeId}(h:zv5 P t=true):P.underlying t=some .bool:=by
 unfold zv5 at h;split at h
 ·assumption
 ·cases h
theorem zkz{t k e:TypeId}(h:zxd P t=some (k,e)):P.underlying t=some (.map k e):=by
 unfold zxd at h;split at h
 ·cases h;assumption
 ·cases h

theorem zst{t e:TypeId}(c:P.underlying t=some (.slice e))(a:z0d P e≠0)(w:World):(sizeOf e).run P w=.ok (z0d P e) w:=by
 obtain⟨i,b⟩:=z2g a;exact z2e b w

theorem zhk{s:RS}{d:D}{v:Value}{ds:List D}(h:rel s d v)(a:z5g d=some ds):v.cells.size=ds.length:=by
 have:=z0j (zcl h a).1
 simpa using this

theorem zl0{s:RS}{w:World}(h:RH P s w){t:TypeId}{x i d:D}{vx vi:Value}(f:z11 P s.H t x i=some d)(p:rel s x vx)(hi:rel s i vi) :
  ∃u,(Instr.indexAt t vx vi).run P w=.ok u w/\rel s d u:=by
 unfold z11 at f;cases X:z3g P t with
 |some e =>
  rw[X]at f;simp only at f;have I:=z2t X;split at f
  ·rename_i nn sz a8 k i;split at f
   ·rename_i a2;obtain⟨rfl,J⟩:=a2;simp only[Z1]at f;obtain⟨el,Z,rfl⟩:=f;obtain⟨z,A,r⟩:=idxD_some Z;simp only[rel]at p hi;subst hi;rcases p with ⟨_,Y,_⟩|⟨a,cap,vs,rfl,_,_,O,B⟩
    ·subst Y;simp at r
    ·obtain⟨u,E,a1⟩:=z38 O _ _ r;obtain⟨a5,l⟩:=B _ _ E;refine⟨.pointer (some (a.add (i.toNat*z0d P e))),?_,?_⟩
     ·simp[Instr.indexAt,asIntOf,run_underlying I,z,A,zst I J]
     ·simp only[rel];exact⟨_,u,rfl,a1,l⟩
   ·cases f
  ·rename_i id n k i;cases m:s.H id with
   |none=>rw[m]at f;cases f
   |some o =>
    rw[m]at f;cases o<;>first|(cases f;done)|skip
    rename_i Q k' cs;simp only at f;split at f
    ·rename_i l;obtain⟨rfl,rfl,J,z,A⟩:=l;simp only[Z0]at f;subst f;simp only[rel]at p hi;subst hi;obtain⟨K,_,C⟩:=p;have hv:=(C _ _ _ m).2 rfl;obtain⟨vs,ho,O,q,_,_⟩:=z3w h m;rcases ho.2 with ⟨F,a9⟩|⟨g,cap,a7,F,_,_⟩
     ·omega
     ·rw[F]at hv;subst hv;refine⟨.pointer (some ((⟨g,0,none⟩:Addr).add (i.toNat*z0d P Q))),?_,?_⟩
      ·simp[Instr.indexAt,asIntOf,run_underlying I,z,A,zst I J]
      ·simp only[rel]
       exact⟨K,⟨_,rfl⟩,fun e2 k2 a6 v=>by
        rw[m]at v;cases v
        exact⟨Z2 _,fun _=>⟨g,by rw[F];rfl,by rw[z1i,Za]⟩⟩⟩
    ·cases f
  ·cases f
 |none =>
  rw[X]at f;simp only at f;cases R:arrT P t with
  |none=>rw[R]at f;cases f
  |some le =>
   obtain⟨a3,e⟩:=le;rw[R]at f;simp only at f;have I:=zss R;have G:∀(a:Addr) (k:IntKind) (i:Int),z0d P e≠0->0<=i->i<a3->(Instr.indexAt t (.pointer (some a)) (.int k i)).run P w=.ok (.pointer (some (a.add (i.toNat*z0d P e)))) w:=by
    intro a k i J q h2;obtain⟨b0,L⟩:=z2g J;simp[Instr.indexAt,asIntOf,run_underlying I,Instr.sureAddr,q,h2,z2e L]
   split at f
   ·rename_i id a4 k i;split at f
    ·rename_i l;simp only[Z0]at f;subst f;simp only[rel]at p hi;subst hi;obtain⟨q,⟨a,rfl⟩,N⟩:=p;refine⟨_,G a k i l.1 l.2.1 l.2.2,?_⟩;simp only[rel];refine⟨q,⟨_,rfl⟩,fun Q cs v=>?_⟩;obtain⟨b,hk,y⟩:=N _ _ v;cases y;exact⟨b,hk,by rw[z1i]⟩
    ·cases f
   ·rename_i id n a4 k i;split at f
    ·rename_i l;simp only[Z0]at f;subst f;simp only[rel]at p hi;subst hi;obtain⟨q,⟨a,rfl⟩,N⟩:=p;refine⟨_,G a k i l.1 l.2.1 l.2.2,?_⟩;simp only[rel];refine⟨q,⟨_,rfl⟩,fun Q k' cs v=>⟨(N _ _ _ v).1,fun a0=>?_⟩⟩;obtain⟨b,hk,y⟩:=(N _ _ _ v).2 a0;cases y;exact⟨b,hk,by rw[z1i]⟩
    ·cases f
   ·rename_i ds k i;split at f
    ·rename_i l;simp only[Z1]at f;obtain⟨d',W,rfl⟩:=f;simp only[rel]at p hi;subst hi;obtain⟨a,u,rfl,⟨vs,rfl,O,q⟩,U⟩:=p;obtain⟨u',E,M,_,_⟩:=z6w W O q;refine⟨_,G a k i l.1 l.2.1 l.2.2,?_⟩;simp only[rel];refine⟨_,u',rfl,E,fun j c hj=>?_⟩;rw[z7m];exact U _ _ (by simpa [Value.cells] using M j c hj)
    ·cases f
   ·cases f

theorem zva{s:RS}{w:World}{t:TypeId}{x i d:D}{q p:Value}(a:zdm P t x i=some d)(h:rel s x q)(hi:rel s i p) :
  ∃u,(Instr.index t q p).run P w=.ok u w/\rel s d u:=by
 unfold zdm at a;split at a
 ·rename_i C e E k i o;have A:=zss o;split at a
  ·rename_i l;obtain⟨j,r,v⟩:=l;simp only[rel]at h hi;subst hi;obtain⟨F,rfl,z,y⟩:=h;obtain⟨u,n,_,_,f⟩:=z6w a z y;obtain⟨B,g⟩:=z2g j;exact⟨u,by simp[Instr.index,asIntOf,run_underlying A,r,v,z2e g,f],n⟩
  ·cases a
 ·rename_i b k i o;split at a
  ·rename_i m;obtain⟨m,j⟩:=m;simp only[Z1]at a;obtain⟨c,l,rfl⟩:=a;simp only[rel]at h hi;subst h;subst hi;exact⟨.int .u8 c.toNat,by simp[Instr.index,asIntOf,run_underlying (z93 m),j,l],by simp[rel]⟩
  ·cases a
 ·cases a

theorem zvb{s:RS}{w:World}{t j:TypeId}{f o:Nat}{ds:List D}{d:D}{v:Value}(a:z19 P t f=some (o,j))(m:z9j P j ds o=some d)(k:rel s (.agg ds) v) :
  ∃u,(Instr.field t v f).run P w=.ok u w/\rel s d u:=by
 simp only[rel]at k;obtain⟨r,rfl,p,n⟩:=k;obtain⟨u,i,_,_,b⟩:=z6w m p n;unfold z19 at a;cases h:P.underlying t with
 |none=>rw[h]at a;cases a
 |some c =>
  rw[h]at a;cases c<;>first|(cases a;done)|skip
  rename_i q;simp only[Z1]at a;obtain⟨l,g,e⟩:=a;simp only[Z3]at e;obtain⟨rfl,rfl⟩:=e;exact⟨u,by simp[Instr.field,run_underlying h,g,asAgg,b],i⟩

theorem z8e{s:RS}{a:Nat}{o:Option D}{c:Option Value}{i:Int}(h:zfw a o=some i)(f:∀d,o=some d->∃v,c=some v/\rel s d v)(e:o=none->c=none) :
  (c=none/\i=a) \/ ∃k,c=some (.int k i):=by
 unfold zfw at h;split at h
 ·cases h;exact .inl ⟨e rfl,rfl⟩
 ·rename_i k j;cases h;obtain⟨v,g,b⟩:=f _ rfl;simp only[rel]at b;subst b;exact .inr ⟨k,g⟩
 ·cases h

theorem z2m{k:IntKind}{i:Int}{y:Nat}{code:BoundsCode}{w:World}(a:0<=i)(b:i<=y):(Instr.sliceBound (.int k i) y code).run P w=.ok i.toNat w:=by
 simp[Instr.sliceBound,asIntOf,a,b]
theorem z5h{len cap:Nat}{lo hi:Option Value}{l h:Int}{w:World}(n:len<=cap)
  (f:(lo=none/\l=(0:Nat)) \/ ∃k,lo=some (.int k l)) (e:(hi=none/\h=(len:Nat)) \/ ∃k,hi=some (.int k h)) (g:0<=l) (j:l<=h) (m:h<=len) :
  (Instr.sliceBounds true len cap lo hi none).run P w=.ok (l.toNat,h.toNat,cap) w:=by
 rcases f with ⟨rfl,rfl⟩|⟨b,rfl⟩<;>rcases e with ⟨rfl,rfl⟩|⟨a,rfl⟩
 ·simp[Instr.sliceBounds]
 ·have:=z2m (P:=P) (k:=a) (i:=h) (y:=cap) (code:=.sliceAcap) (w:=w) (by omega) (by omega);simp[Instr.sliceBounds,this]
 ·have:=z2m (P:=P) (k:=b) (i:=l) (y:=len) (code:=.sliceB) (w:=w) (by omega) (by omega);simp[Instr.sliceBounds,this]
 ·have c:=z2m (P:=P) (k:=a) (i:=h) (y:=cap) (code:=.sliceAcap) (w:=w) (by omega) (by omega);have d:=z2m (P:=P) (k:=b) (i:=l) (y:=h.toNat) (code:=.sliceB) (w:=w) (by omega) (by omega);simp[Instr.sliceBounds,c,d]

theorem zhx{len cap:Nat}{lo hi:Option Value}{l h:Int}{w:World}(n:len<=cap)
  (f:(lo=none/\l=(0:Nat)) \/ ∃k,lo=some (.int k l)) (e:(hi=none/\h=(len:Nat)) \/ ∃k,hi=some (.int k h)) (g:0<=l) (j:l<=h) (m:h<=len) :
  (Instr.sliceBounds false len cap lo hi none).run P w=.ok (l.toNat,h.toNat,cap) w:=by
 rcases f with ⟨rfl,rfl⟩|⟨b,rfl⟩<;>rcases e with ⟨rfl,rfl⟩|⟨a,rfl⟩
 ·simp[Instr.sliceBounds]
 ·have:=z2m (P:=P) (k:=a) (i:=h) (y:=cap) (code:=.sliceAlen) (w:=w) (by omega) (by omega);simp[Instr.sliceBounds,this]
 ·have:=z2m (P:=P) (k:=b) (i:=l) (y:=len) (code:=.sliceB) (w:=w) (by omega) (by omega);simp[Instr.sliceBounds,this]
 ·have c:=z2m (P:=P) (k:=a) (i:=h) (y:=cap) (code:=.sliceAlen) (w:=w) (by omega) (by omega);have d:=z2m (P:=P) (k:=b) (i:=l) (y:=h.toNat) (code:=.sliceB) (w:=w) (by omega) (by omega);simp[Instr.sliceBounds,c,d]

theorem zvc{s:RS}{w:World}{t:TypeId}{x d:D}{lo hi:Option D}{X:Value}{y r:Option Value}(b:zdn P t x lo hi=some d)(A:rel s x X)
  (p:∀d,lo=some d->∃v,y=some v/\rel s d v) (k:lo=none->y=none) (n:∀d,hi=some d->∃v,r=some v/\rel s d v) (i:hi=none->r=none) :
  ∃u,(Instr.sliceAt t X y r none).run P w=.ok u w/\rel s d u:=by
 unfold zdn at b;cases M:z3g P t with
 |none =>
  rw[M]at b;simp only at b;split at b
  ·rename_i x;simp only[Z4]at b;obtain⟨l,G,h,F,b⟩:=b;split at b
   ·rename_i C;obtain⟨N,H,I,B⟩:=C;simp only[Z0]at b;subst b;have g:=z8e G p k;have f:=z8e F n i;simp only[rel]at A;subst A;have m:=zhx (P:=P) (len:=x.size) (cap:=x.size) (w:=w) (Z2 _) g f H I B;exact⟨.string (x.extract l.toNat h.toNat),by simp[Instr.sliceAt,Instr.slice,run_underlying (z93 N),m],by simp[rel]⟩
   ·cases b
  ·cases b
 |some e =>
  rw[M]at b;have O:=z2t M;simp only at b;split at b
  ·rename_i nn sz J;simp only[Z4]at b;obtain⟨l,G,h,F,b⟩:=b;split at b
   ·rename_i C;obtain⟨rfl,q,H,I,B⟩:=C;obtain⟨Q,c⟩:=z2g q;simp only[Z0]at b;subst b;have g:=z8e G p k;have f:=z8e F n i;simp only[rel]at A;rcases A with ⟨rfl,rfl,rfl⟩|⟨a,cap,R,rfl,E,U,W,o⟩
    ·have m:=z5h (P:=P) (len:=0) (cap:=0) (w:=w) (Z2 _) g f H I B;have L:h.toNat=0:=by simp at B;omega
     have K:l.toNat=0:=by omega
     refine⟨.slice none 0 0,?_,?_⟩
     ·simp[Instr.sliceAt,Instr.slice,run_underlying O,m,z2e c,L,K]
     ·simp[rel]
    ·have m:=z5h (P:=P) (len:=J.length) (cap:=cap) (w:=w) E g f H I B;refine⟨.slice (if cap=l.toNat then some a else some (a.add (l.toNat*z0d P e))) (h.toNat-l.toNat) (cap-l.toNat),?_,?_⟩
     ·simp[Instr.sliceAt,Instr.slice,run_underlying O,m,z2e c]
     ·simp only[rel];have a2:=z0j W;refine .inr ⟨if cap=l.toNat then a else a.add (l.toNat*z0d P e),cap-l.toNat,(R.take h.toNat).drop l.toNat,?_,?_,by omega,z6b _ (z4k _ W),?_⟩
      ·simp only[ZK,Zl];split<;>(congr 1;omega)
      ·simp only[ZK,Zl];omega
      ·intro j v z;simp only[Zd,Zb]at z;split at z
       ·rename_i a0;have a1:l.toNat+j<R.length:=by
         rcases Zr (l.toNat+j) R.length with h9|h9
         ·exact h9
         ·rw[Z7 h9]at z;cases z
        obtain⟨Y,Z⟩:=o _ _ z;refine⟨Y,?_⟩;rw[if_neg (by omega),z7m,<-Z6];exact Z
       ·cases z
   ·cases b
  ·simp only[Z4]at b;obtain⟨l,G,h,F,b⟩:=b;split at b
   ·rename_i C;obtain⟨q,rfl,rfl⟩:=C;obtain⟨Q,c⟩:=z2g q;simp only[Z0]at b;subst b;have g:=z8e G p k;have f:=z8e F n i;simp only[rel]at A;subst A;have m:=z5h (P:=P) (len:=0) (cap:=0) (w:=w) (Z2 _) g f (by omega) (by omega) (by simp);exact⟨.slice none 0 0,by simp[Instr.sliceAt,Instr.slice,run_underlying O,m,z2e c],by simp[rel]⟩
   ·cases b
  ·cases b

theorem z7v{len cap:Nat}{k k':IntKind}{h m:Int}{w:World}(c:0<=h)(d:h<=m)(e:m<=cap) :
  (Instr.sliceBounds true len cap none (some (.int k h)) (some (.int k' m))).run P w=.ok (0,h.toNat,m.toNat) w:=by
 have a:=z2m (P:=P) (k:=k') (i:=m) (y:=cap) (code:=.slice3Acap) (w:=w) (by omega) (by omega);have b:=z2m (P:=P) (k:=k) (i:=h) (y:=m.toNat) (code:=.slice3B) (w:=w) (by omega) (by omega);simp[Instr.sliceBounds,a,b]
theorem zsu{s:RS}{w:World}{t:TypeId}{x d:D}{lo hi:Option D}{N:D}{Q O:Value}{q p:Option Value}(c:zax P t x lo hi N=some d)(y:rel s x Q)
  (o:lo=none->q=none) (B:∀d,hi=some d->∃v,p=some v/\rel s d v) (J:rel s N O) :
  ∃u,(Instr.sliceAt t Q q p (some O)).run P w=.ok u w/\rel s d u:=by
 unfold zax at c;split at c
 ·rename_i e k h i m W;have C:=z2t W;obtain⟨v,rfl,M⟩:=B _ rfl;have E:=o rfl;subst E;simp only[rel]at M J;subst M;subst J;split at c
  ·rename_i nn sz l;split at c
   ·rename_i A;obtain⟨rfl,g,G,rfl,H⟩:=A;obtain⟨F,b⟩:=z2g g;simp only[Z0]at c;subst c;simp only[rel]at y;rcases y with ⟨rfl,rfl,rfl⟩|⟨a,cap,vs,rfl,I,K,L,f⟩
    ·have n:=z7v (P:=P) (len:=0) (cap:=0) (k:=k) (k':=i) (h:=h) (m:=h) (w:=w) G (ZA _) (by simpa using H);have z:h.toNat=0:=by simp at H;omega
     refine⟨.slice none 0 0,by simp[Instr.sliceAt,Instr.slice,run_underlying C,n,z2e b,z],?_⟩;simp[rel]
    ·have n:=z7v (P:=P) (len:=l.length) (cap:=cap) (k:=k) (k':=i) (h:=h) (m:=h) (w:=w) G (ZA _) (by omega);refine⟨.slice (if h.toNat=0 then some a else some (a.add (0*z0d P e))) (h.toNat-0) (h.toNat-0),?_,?_⟩
     ·simp[Instr.sliceAt,Instr.slice,run_underlying C,n,z2e b]
     ·simp only[rel];have Z:=z0j L;have Y:(l.take h.toNat).length=h.toNat:=by rw[Zl];omega
      refine .inr ⟨if h.toNat=0 then a else a.add (0*z0d P e),vs.take h.toNat,?_,by omega,z4k _ L,?_⟩
      ·rw[Y];split<;>rfl
      ·intro j v r;simp only[Zb]at r;split at r
       ·rename_i X;obtain⟨R,U⟩:=f _ _ r;refine⟨R,?_⟩;rw[if_neg (by omega),z7m,ZR,Za];exact U
       ·cases r
   ·cases c
  ·split at c
   ·rename_i A;obtain⟨g,rfl,rfl⟩:=A;obtain⟨F,b⟩:=z2g g;simp only[Z0]at c;subst c;simp only[rel]at y;subst y;have n:=z7v (P:=P) (len:=0) (cap:=0) (k:=k) (k':=i) (h:=0) (m:=0) (w:=w) (ZA _) (ZA _) (by simp);exact⟨.slice none 0 0,by simp[Instr.sliceAt,Instr.slice,run_underlying C,n,z2e b],by simp[rel]⟩
   ·cases c
  ·cases c
 ·cases c
end Abs
namespace Abs
open Go.RowKit
variable {P:Program}

theorem zbb(off:Nat):∀(us:List Value) (k:Nat) (cs:Array Value),
  ((us.zipIdx k).foldl (fun cs x=>cs.setIfInBounds (off+x.2) x.1) cs).toList=z1d cs.toList (off+k) us
 |[],k,cs=>by simp[z1d]
 |u::us,k,cs=>by
  simp only[List.zipIdx_cons,List.foldl_cons,z1d];rw[zbb off us (k+1) _];simp[Y7]

def zco(s:RS):List (Nat×D)->List (Nat×Value)->Prop
 |[],a=>a=[]
 |(i,d)::r,a=>∃v q,a=(i,v)::q/\rel s d v/\zco s r q

theorem zg3{s:RS}{b:Nat->Option (Nat×Nat)}:∀ {a:List (Nat×D)}{vparts:List (Nat×Value)}{cs e:List D}{vs:List Value},
  zom b cs a=some e->zco s a vparts->relAll s cs vs->z7a vs ->
  ∃c,Instr.fill b vs.toArray vparts=some (ZQ c)/\relAll s e c/\z7a c
 |[],vparts,cs,e,vs,h,j,k,l=>by
  simp only[zco]at j;subst j;simp only[zom,Z0]at h;subst h;exact⟨vs,rfl,k,l⟩
 |(i,d)::r,vparts,cs,e,vs,h,j,k,l=>by
  simp only[zco]at j;obtain⟨v,q,rfl,p,C⟩:=j;simp only[zom]at h;split at h
  ·rename_i f t F n g;split at h
   ·rename_i y;obtain⟨z,A⟩:=y;obtain⟨o,m⟩:=zcl p g;have E:=zhk p g;have B:=z0j k;obtain⟨c,u,w,x⟩:=zg3 (s:=s) h C (z86 f o k) (zb0 f m l);refine⟨c,?_,w,x⟩;simp only[Instr.fill,n];rw[if_neg (by simp;omega)];rw[<-u]
    congr 1
    apply ZE;have:=zbb f v.cells.toList 0 vs.toArray;simp only[Zw]at this;rw[<-this];rw[<-ZY,ZW]
   ·cases h
  ·cases h

theorem zeh{t:TypeId}{b:List D}(h:z4t P t=some b) :
  ∃z:Value,(∀w,(zeroValue t).run P w=.ok z w)/\(∀s,relAll s b z.cells.toList)/\z7a z.cells.toList/\z.cells.size=z0d P t:=by
 unfold z4t at h;simp only[Z4]at h;obtain⟨z,⟨i,c,e⟩,h⟩:=h;split at h
 ·rename_i a;cases h;refine⟨z,fun w=>by simp[zeroValue,typeInfo,c,e],fun s=>zdo s _,fun u d=>by simpa using Zu.1 a.2 u d,a.1⟩
 ·cases h

theorem zxr{a:List Field}(h:a.all (fun f=>(P.info? f.type).isSome)=true)(w:World) :
  (a.mapM fun f=>do pure (f.offset,<-sizeOf f.type):Sem (List (Nat×Nat))).run P w=.ok (a.map fun f=>(f.offset,z0d P f.type)) w:=by
 induction a with
 |nil=>simp
 |cons f a d =>
  simp only[List.all_cons,Zc]at h;obtain⟨i,c⟩:=ZP.1 h.1;have b:=d h.2;simp only[List.mapM_cons,Sem.run_bind,Sem.run_pure,z2e c,Result.andThen_ok,b,Zo]

theorem zt2{s:RS}{w:World}{t:TypeId}{c:List (Nat×D)}{vparts:Array (Nat×Value)}{d:D}(a:zb6 P t c=some d)(G:zco s c vparts.toList) :
  ∃u,(Instr.build t vparts).run P w=.ok u w/\rel s d u:=by
 unfold zb6 at a;cases F:z4t P t with
 |none=>rw[F]at a;cases a
 |some K =>
  rw[F]at a;simp only at a;obtain⟨z,r,b,q,I⟩:=zeh F;cases j:P.underlying t with
  |none=>rw[j]at a;cases a
  |some k =>
   rw[j]at a;cases k<;>first|(cases a;done)|skip
   case struct fs =>
    simp only at a;split at a
    ·rename_i p;simp only[Z1]at a;obtain⟨v,B,rfl⟩:=a;simp only[z4l,j]at p;obtain⟨g,h,y,A⟩:=zg3 (s:=s) (vs:=z.cells.toList) B G (b s) q;refine⟨.agg g.toArray,?_,?_⟩
     ·have E:(fs.mapM fun f=>do pure (f.offset,<-sizeOf f.type):Sem (Array (Nat×Nat))).run P w=.ok (fs.map fun f=>(f.offset,z0d P f.type)) w:=by
       rw[Array.mapM_eq_mapM_toList];simp only[Sem.run_map,zxr p w,Result.andThen_ok]
       congr 1
       apply ZE;simp
      have l:(fun i=>ZX (fun x=>match x with|(o,H)=>(o,z0d P H)) (z19 P t i))=fun i=>(fs.map fun f=>(f.offset,z0d P f.type))[i]?:=by
       funext i
       simp only[z19,j,ZZ,Option.map_map]
       rfl
      rw[l]at h;simp only[ZB]at h;simp only[Instr.build,Sem.run_bind,r,Result.andThen_ok,run_underlying j,E,h,Sem.run_pure]
     ·simp only[rel];exact⟨g,rfl,y,A⟩
    ·cases a
   case array n e =>
    simp only at a;split at a
    ·rename_i C;simp only[Z1]at a;obtain⟨v,B,rfl⟩:=a;obtain⟨J,m⟩:=z2g C;obtain⟨g,h,y,A⟩:=zg3 (s:=s) (vs:=z.cells.toList) B G (b s) q;refine⟨.agg g.toArray,?_,?_⟩
     ·simp only[ZB]at h;simp only[Instr.build,Sem.run_bind,r,Result.andThen_ok,run_underlying j,z2e m,h,Sem.run_pure]
     ·simp only[rel];exact⟨g,rfl,y,A⟩
    ·cases a

theorem zbc{s:RS}{n:Nat}:∀ {ds cs:List D}{vs:List Value},z21 n ds=some cs->relAll s ds vs ->
  relAll s cs (vs.flatMap (·.cells.toList))/\z7a (vs.flatMap (·.cells.toList))/\(∀v∈vs,v.cells.size=n)
 |[],cs,vs,h,a=>by
  simp only[relAll]at a;subst a;simp only[z21,Z0]at h;subst h;exact⟨by simp[relAll],by simp[z7a],by simp⟩
 |d::ds,cs,vs,h,a=>by
  simp only[relAll]at a;obtain⟨v,r,rfl,e,a⟩:=a;simp only[z21]at h;split at h
  ·rename_i c q b m;split at h
   ·rename_i l;cases h;obtain⟨f,g,i⟩:=zbc m a;obtain⟨j,k⟩:=zcl e b;refine⟨by simpa using z17 j f,by simpa using z32 k g,fun u hu=>?_⟩;rcases List.mem_cons.1 hu with rfl|hu
    ·rw[zhk e b];exact l
    ·exact i u hu
   ·cases h
  ·cases h

theorem zdp{n:Nat}:∀ {vs:List Value},(∀v∈vs,v.cells.size=n)->(vs.flatMap (·.cells.toList)).length=vs.length*n
 |[],_=>by simp
 |v::vs,h=>by
  simp only[Zt,Zh,Zj,Zv,h v (by simp)];rw[zdp (fun u a=>h u (Zp _ a)),Z6];omega
theorem zn5{n:Nat}:∀ {vs:List Value},(∀v∈vs,v.cells.size=n)->∀(i:Nat) (v:Value) (j:Nat) (c:Value),vs[i]?=some v->v.cells.toList[j]?=some c ->
  (vs.flatMap (·.cells.toList))[i*n+j]?=some c
 |[],_,i,v,j,c,a,_=>by simp at a
 |u::vs,h,0,v,j,c,a,b=>by
  simp at a;subst a;simp only[Zt,ZR,Za];rw[List.getElem?_append_left]
  ·exact b
  ·rcases Zr j u.cells.toList.length with h1|h1
   ·exact h1
   ·rw[Z7 h1]at b;cases b
 |u::vs,h,i+1,v,j,c,a,b=>by
  have d:u.cells.toList.length=n:=by simpa using h u (by simp)
  simp only[Zt];rw[List.getElem?_append_right (by rw[d,Z6];omega),d];have:(i+1)*n+j-n=i*n+j:=by rw[Z6];omega
  rw[this];exact zn5 (fun x e=>h x (Zp _ e)) i v j c (by simpa using a) b

theorem zvh{n:Nat}:∀(vs:List Value) (k:Nat) (A:List Value),(∀v∈vs,v.cells.size=n)->A.length=(k+vs.length)*n ->
    Instr.fill (fun i=>some (i*n,n)) A.toArray ((List.range' k vs.length).zip vs)=some ((A.take (k*n)++vs.flatMap (·.cells.toList)).toArray)
  |[],k,A,_,b=>by
    simp only[List.length_nil,Zw]at b;simp[Instr.fill,<-b]
  |v::vs,k,A,h,b=>by
    have c:v.cells.size=n:=h v (by simp);simp only[Zv]at b⊢;simp only[List.range'_succ,List.zip_cons_cons,Instr.fill]
    have f:k*n+n<=A.length:=by rw[b];have:(k+(vs.length+1))*n=k*n+n+vs.length*n:=by rw[Z6,Z6];omega
                               omega
    rw[if_neg (by simp[c];omega)];have g:(v.cells.zipIdx.foldl (fun e x=>e.setIfInBounds (k*n+x.2) x.1) A.toArray)=(z1d A (k*n) v.cells.toList).toArray:=by
      apply ZE;have:=zbb (k*n) v.cells.toList 0 A.toArray;simp only[Zw]at this;rw[<-ZY,ZW];exact this
    have d:=zvh vs (k+1) (z1d A (k*n) v.cells.toList) (fun u j=>h u (Zp _ j)) (by rw[zaz,b];congr 1;omega);have a:(z1d A (k*n) v.cells.toList).take ((k+1)*n)=A.take (k*n)++v.cells.toList:=by
      rw[zcn _ _ _ (by simp[c];omega)];have:(k+1)*n=(A.take (k*n)++v.cells.toList).length:=by
        simp[c,Z6];omega
      rw[this,List.take_left]
    rw[a]at d;simp only[Zt,<-ZH];rw[<-d]
    congr 1

theorem zir{s:RS}(ρ:Operand->Value)(b:Operand->D)(h:∀x,rel s (b x) (ρ x)):∀(a:List (Nat×Operand)),
  zco s (a.map fun x=>(x.1,b x.2)) (a.map fun x=>(x.1,ρ x.2))
 |[]=>rfl
 |_::c=>⟨_,_,rfl,h _,zir ρ b h c⟩
theorem z87{s:RS}(ρ:Operand->Value)(a:Operand->D)(h:∀x,rel s (a x) (ρ x)):∀(xs:List Operand),relAll s (xs.map a) (xs.map ρ)
 |[]=>z15
 |x::xs=>z0y (h x) (z87 ρ a h xs)

theorem z52{t:TypeId}(h:z5f P t=true):∃i z,P.info? t=some i/\i.zero=some z/\z.cells.size=z0d P t:=by
 unfold z5f at h;cases b:P.info? t with
 |none=>rw[b]at h;simp at h
 |some i =>
  rw[b]at h;cases a:i.zero with
  |none=>simp[a]at h
  |some z=>simp[a]at h;exact⟨i,z,rfl,a,h⟩

theorem zl5{t e:TypeId}{len:Nat}{vparts:Array (Nat×Value)}{vs:List Value}{w:World}(k:P.underlying t=some (.slice e))(f:z0d P e≠0)
  (m:len*z0d P e<=2 ^ 24) (hz:len=0 \/ z5f P e=true) (o:vparts.toList=(List.range len).zip vs) (j:vs.length=len) (g:∀v∈vs,v.cells.size=z0d P e) :
  (Instr.buildSlice t len vparts).run P w=.ok (.slice (some ⟨w.heap.size,0,none⟩) len len) (w.alloc (.cells (vs.flatMap (·.cells.toList)).toArray e)):=by
 obtain⟨p,b⟩:=z2g f;have a:∀z:Array Value,Instr.fill (fun i=>some (i*z0d P e,z0d P e)) ((Y8 (len*z0d P e)).map fun x=>z[x % z.size]!) vparts.toList=some (vs.flatMap (·.cells.toList)).toArray:=by
  intro z;have:=zvh (n:=z0d P e) vs 0 ((Y8 (len*z0d P e)).map fun x=>z[x % z.size]!).toList g (by simp[j]);simp only[ZR,List.take_zero,ZM,j,ZB]at this;rw[o,List.range_eq_range'];exact this
 have c:¬(len*z0d P e > 2 ^ 24):=by omega
 by_cases d:len*z0d P e=0
 ·simp only[Instr.buildSlice,Sem.run_bind,run_underlying k,Result.andThen_ok,z2e b,if_neg c,if_pos d,Sem.run_pure,a #[],newRow,run_newObj]
  rfl
 ·rcases hz with rfl|hz
  ·exact(d (by simp)).elim
  ·obtain⟨i,z,l,hz,_⟩:=z52 hz;have h:(zeroValue e).run P w=.ok z w:=by simp[zeroValue,typeInfo,l,hz]
   simp only[Instr.buildSlice,Sem.run_bind,run_underlying k,Result.andThen_ok,z2e b,if_neg c,if_neg d,h,Sem.run_pure,a z.cells,newRow,run_newObj]
   rfl

theorem unD_sound{s:RS}{w:World}{c:UnOp}{x d:D}{v:Value}(a:unD c x=some d)(b:rel s x v):∃u,(Op.unary c v).run P w=.ok u w/\rel s d u:=by
 unfold unD at a;split at a
 ·split at a<;>first|(cases a;done)|skip
  cases a;simp only[rel]at b;subst b;exact⟨_,by simp[Op.unary];rfl,by simp[rel]⟩
 ·split at a<;>first|(cases a;done)|skip
  cases a;simp only[rel]at b;subst b;exact⟨_,by simp[Op.unary,Op.intArith];rfl,by simp[rel]⟩
 ·cases a

theorem zxs{s:RS}{w:World}(h:RH P s w){t ty:TypeId}{x d:D}{v:Value}(b:lenD P s.H t x=some d)(f:rel s x v):∃u,(Builtin.len_ #[t] ty #[v]).run P w=.ok u w/\rel s d u:=by
 unfold lenD at b;split at b
 ·rename_i B C o;simp only[Z1]at b;obtain⟨e,g,rfl⟩:=b;simp only[rel]at f;rcases f with ⟨_,rfl,rfl⟩|⟨a,cap,E,rfl,_⟩
  ·exact⟨_,by simp[Builtin.len_,run_underlying (z2t g),goInt];rfl,by simp[rel]⟩
  ·exact⟨_,by simp[Builtin.len_,run_underlying (z2t g),goInt];rfl,by simp[rel]⟩
 ·simp only[Z1]at b;obtain⟨e,g,rfl⟩:=b;simp only[rel]at f;subst f;exact⟨_,by simp[Builtin.len_,run_underlying (z2t g),goInt];rfl,by simp[rel]⟩
 ·simp only[Z1]at b;obtain⟨e,g,rfl⟩:=b;simp only[rel]at f;obtain⟨_,⟨a,c,rfl⟩,_⟩:=f;exact⟨_,by simp[Builtin.len_,run_underlying (z2t g),goInt];rfl,by simp[rel]⟩
 ·rename_i id;split at b
  ·rename_i A i;simp only[Z1]at b;obtain⟨⟨k,e⟩,g,rfl⟩:=b;simp only[rel]at f;obtain⟨_,_,f⟩:=f;have n:=f _ i rfl;obtain⟨r,j,c,q,p,l,y,_⟩:=(h.obj _ _ i).2;rw[q]at n;subst n;have m:=z0j l;simp only[Zx,Zj]at m;exact⟨.int .i64 j.size,by simp[Builtin.len_,run_underlying (zkz g),getObj,Sem.run,p,goInt],by simp[rel,m]⟩
  ·cases b
 ·split at b
  ·rename_i z;cases b;simp only[rel]at f;subst f;exact⟨_,by simp[Builtin.len_,run_underlying (z93 z),goInt];rfl,by simp[rel]⟩
  ·cases b
 ·cases b

end Abs
namespace Abs
open Go.RowKit
variable {P:Program}

theorem zn6(a b:ByteArray):(a.toList==b.toList)=decide (a=b):=by
 rw[ByteArray.toList_eq,ByteArray.toList_eq];obtain⟨⟨x⟩⟩:=a;obtain⟨⟨y⟩⟩:=b
 by_cases h:x=y
 ·subst h;simp
 ·have d:(x==y)=false:=by simpa using h
  show (x==y)=_;rw[d]
  symm
  simp only[decide_eq_false_iff_not];intro e;apply h;injection e with c
  injection c

theorem zis(s:RS):∀(n:Nat) (d:Nat) (t:TypeId) (x y:D) (o p:Value) (r:Bool),n<=d->eqD P n t x y=some r->rel s x o->rel s y p ->
  ∀w,(Op.equalIn d t o p).run P w=.ok r w:=by
 intro n
 induction n with
 |zero=>intro d t x y o p r _ h;simp[eqD]at h
 |succ n Q =>
  intro d t x y o p r Y h g i w;obtain⟨d,rfl⟩:∃K,d=K+1:=⟨d-1,by omega⟩
  simp only[eqD]at h;split at h
  ·rename_i e;cases h;simp only[rel]at g i;subst g;subst i;simp[Op.equalIn,run_underlying e]
  ·rename_i e;split at h
   ·rename_i O;cases h;simp only[rel]at g i;subst g;subst i;subst O;simp[Op.equalIn,run_underlying e]
   ·cases h
  ·rename_i e;cases h;simp only[rel]at g i;subst g;subst i;simp[Op.equalIn,run_underlying e,beq_toListBytes,zn6]
  ·rename_i I Z ys e;split at h
   ·rename_i c;simp only[rel]at g i;obtain⟨W,rfl,F,E⟩:=g;obtain⟨X,rfl,H,G⟩:=i;have j:P.fieldsOf t=I:=by simp[Program.fieldsOf,e]
    rw[run_equalIn_struct w d t _ _ (by rw[j];exact e) c,j];generalize I.toList=l at h;clear e j
    induction l with
    |nil=>simp only[z3o,Z0]at h;subst h;simp[Op.eqFields]
    |cons f l m =>
     simp only[z3o]at h;simp only[Op.eqFields];split at h
     ·rename_i k;rw[if_pos k];split at h
      ·rename_i a b M N;obtain⟨R,B,_,_,q⟩:=z6w M F E;obtain⟨U,C,_,_,u⟩:=z6w N H G;split at h
       ·rename_i J v;have L:=Q d f.type a b R U J (by omega) v B C w;simp only[Sem.run_bind,q,u,Result.andThen_ok,L,Sem.run_ite];split at h
        ·rename_i A;subst A;simp only[Bool.not_true,Zn,if_false];exact m h
        ·rename_i z;cases h;have:J=false:=by simpa using z
         subst this;simp
       ·cases h
      ·cases h
     ·rename_i k;rw[if_neg k];exact m h
   ·cases h
  ·cases h

theorem zou{c:BinOp}{a b:Int}{r:Bool}{w:World}(h:zso c a b=some r):(Op.intCmp c a b).run P w=.ok (.bool r) w:=by
 unfold zso at h;split at h<;>first|(cases h;done)|skip
 all_goals cases h
 ·simp only[Op.intCmp,Sem.run_pure]
  congr 2
 ·simp only[Op.intCmp,Sem.run_pure]
  congr 2
  by_cases h:a=b<;>simp[h]
 ·simp[Op.intCmp]
 ·simp[Op.intCmp]
 ·simp[Op.intCmp]
 ·simp[Op.intCmp]

set_option maxHeartbeats 1000000 in
theorem zov{s:RS}{w:World}{g:BinOp}{t:TypeId}{x y:Operand}{k k':IntKind}{a b:Int}{d:D}(c:binD P g t (.int k a) (.int k' b)=some d) :
  ∃u,(do eqGuard g t x y (.int k a) (.int k' b);binOp g t (.int k a) (.int k' b):Sem Value).run P w=.ok u w/\rel s d u:=by
 simp only[binD]at c;have h:(eqGuard g t x y (.int k a) (.int k' b)).run P w=.ok () w:=by
  unfold eqGuard;cases g<;>simp
 simp only[Sem.run_bind,h,Result.andThen_ok];clear h;split at c
 ·split at c<;>first|(cases c;done)|skip
  rename_i f;cases c;exact⟨_,by simp[binOp,Op.shift,Y9.2 f];rfl,by simp[rel]⟩
 ·split at c<;>first|(cases c;done)|skip
  rename_i f;cases c;exact⟨_,by simp[binOp,Op.shift,Y9.2 f];rfl,by simp[rel]⟩
 ·split at c<;>first|(cases c;done)|skip
  rename_i e;subst e;cases c;exact⟨_,by simp[binOp,Op.intArith];rfl,by simp[rel]⟩
 ·split at c<;>first|(cases c;done)|skip
  rename_i e;subst e;cases c;exact⟨_,by simp[binOp,Op.intArith];rfl,by simp[rel]⟩
 ·split at c<;>first|(cases c;done)|skip
  rename_i e;subst e;cases c;exact⟨_,by simp[binOp,Op.intArith];rfl,by simp[rel]⟩
 ·split at c<;>first|(cases c;done)|skip
  rename_i e;obtain⟨rfl,f⟩:=e;cases c;exact⟨_,by simp[binOp,Op.intDiv,f];rfl,by simp[rel]⟩
 ·split at c<;>first|(cases c;done)|skip
  rename_i e;obtain⟨rfl,f⟩:=e;cases c;exact⟨_,by simp[binOp,Op.intDiv,f];rfl,by simp[rel]⟩
 ·split at c<;>first|(cases c;done)|skip
  rename_i e;subst e;simp only[bitsD,Zf,Z0]at c;subst c;exact⟨_,by simp[binOp,Op.intBits];rfl,by simp[rel]⟩
 ·split at c<;>first|(cases c;done)|skip
  rename_i e;subst e;simp only[bitsD,Zf,Z0]at c;subst c;exact⟨_,by simp[binOp,Op.intBits];rfl,by simp[rel]⟩
 ·split at c<;>first|(cases c;done)|skip
  rename_i e;subst e;simp only[bitsD,Zf,Z0]at c;subst c;exact⟨_,by simp[binOp,Op.intBits];rfl,by simp[rel]⟩
 ·split at c<;>first|(cases c;done)|skip
  rename_i e;subst e;simp only[bitsD,Zf,Z0]at c;subst c;exact⟨_,by simp[binOp,Op.intBits];rfl,by simp[rel]⟩
 ·split at c<;>first|(cases c;done)|skip
  rename_i e;subst e;simp only[Z1]at c;obtain⟨r,i,rfl⟩:=c;have:=zou (P:=P) (w:=w) i;refine⟨.bool r,?_,by simp[rel]⟩;rw[<-this];cases g<;>first|(simp[zso]at i;done)|simp[binOp]

theorem zcp(t:TypeId)(x y:Value):Op.equal t x y=Op.equalIn (9999+1) t x y:=rfl
theorem zow{t:TypeId}(h:zv5 P t=true)(a b:Bool)(w:World):(binOp .eql t (.bool a) (.bool b)).run P w=.ok (.bool (a==b)) w:=by
 show (do pure (Value.bool (<-Op.equal t (.bool a) (.bool b))):Sem Value).run P w=_;rw[zcp];simp only[Sem.run_bind,run_equalIn_bool' w 9999 t a b (zn1 h),Result.andThen_ok,Sem.run_pure]
theorem zox{t:TypeId}(h:zv5 P t=true)(a b:Bool)(w:World):(binOp .neq t (.bool a) (.bool b)).run P w=.ok (.bool (a != b)) w:=by
 show (do pure (Value.bool (!(<-Op.equal t (.bool a) (.bool b)))):Sem Value).run P w=_;rw[zcp];simp only[Sem.run_bind,run_equalIn_bool' w 9999 t a b (zn1 h),Result.andThen_ok,Sem.run_pure]
 rfl
theorem z9n{t:TypeId}{x y:Value}{r:Bool}{w:World}(h:(Op.equal t x y).run P w=.ok r w)(d:∀k n,x ≠ .int k n)(a:∀k n,x ≠ .float k n)(b:∀k n m,x ≠ .complex k n m)(c:∀z,x ≠ .string z) :
  (binOp .eql t x y).run P w=.ok (.bool r) w:=by
 have:binOp .eql t x y=(do pure (Value.bool (<-Op.equal t x y)):Sem Value):=by
  unfold binOp;cases x<;>first|rfl|(exfalso;first|exact d _ _ rfl|exact a _ _ rfl|exact b _ _ _ rfl|exact c _ rfl)
 rw[this];simp only[Sem.run_bind,h,Result.andThen_ok,Sem.run_pure]
theorem zcq{t:TypeId}{x y:Value}{r:Bool}{w:World}(h:(Op.equal t x y).run P w=.ok r w)(d:∀k n,x ≠ .int k n)(a:∀k n,x ≠ .float k n)(b:∀k n m,x ≠ .complex k n m)(c:∀z,x ≠ .string z) :
  (binOp .neq t x y).run P w=.ok (.bool (!r)) w:=by
 have:binOp .neq t x y=(do pure (Value.bool (!(<-Op.equal t x y))):Sem Value):=by
  unfold binOp;cases x<;>first|rfl|(exfalso;first|exact d _ _ rfl|exact a _ _ rfl|exact b _ _ _ rfl|exact c _ rfl)
 rw[this];simp only[Sem.run_bind,h,Result.andThen_ok,Sem.run_pure]
theorem zei{c:BinOp}{t:TypeId}{x y:Operand}{a b:Array Value}{w:World}(h:P.eqGuardType P.depth t=false):(eqGuard c t x y (.agg a) (.agg b)).run P w=.ok () w:=by
 unfold eqGuard;cases c<;>simp[h]
theorem z53{b:BinOp}{t:TypeId}{x y:Operand}{a:Option Addr}{n c:Nat}{v:Value}{w:World}:(eqGuard b t x y (.slice a n c) v).run P w=.ok () w:=by
 unfold eqGuard;cases b<;>simp
theorem zit(d:Nat){t e:TypeId}(b:P.underlying t=some (.slice e))(a:Option Addr)(n c:Nat)(w:World):(Op.equalIn (d+1) t (.slice a n c) (.slice none 0 0)).run P w=.ok a.isNone w:=by
 cases a<;>simp[Op.equalIn,run_underlying b]
theorem zaa{t e:TypeId}(b:P.underlying t=some (.slice e))(a:Option Addr)(n c:Nat)(w:World):(Op.equal t (.slice a n c) (.slice none 0 0)).run P w=.ok a.isNone w:=by
 rw[zcp];exact zit 9999 b a n c w

theorem zej{b:BinOp}{t:TypeId}{x y:Operand}{a:Option Addr}{v:Value}{w:World}:(eqGuard b t x y (.pointer a) v).run P w=.ok () w:=by
 unfold eqGuard;cases b<;>simp
theorem ziu(d:Nat){t e:TypeId}(b:P.underlying t=some (.pointer e))(a:Option Addr)(w:World):(Op.equalIn (d+1) t (.pointer a) (.pointer none)).run P w=.ok a.isNone w:=by
 cases a<;>simp[Op.equalIn,run_underlying b]
theorem zab{t e:TypeId}(b:P.underlying t=some (.pointer e))(a:Option Addr)(w:World):(Op.equal t (.pointer a) (.pointer none)).run P w=.ok a.isNone w:=by
 rw[zcp];exact ziu 9999 b a w
theorem ptrT_some{t:TypeId}(h:ptrT P t=true):∃e,P.underlying t=some (.pointer e):=by
 unfold ptrT at h;split at h
 ·exact⟨_,by assumption⟩
 ·cases h
set_option maxHeartbeats 1000000 in
theorem zxt{s:RS}{w:World}{v:BinOp}{t:TypeId}{x y:Operand}{dx dy d:D}{z F:Value}(f:binD P v t dx dy=some d)(i:rel s dx z)(l:rel s dy F) :
  ∃u,(do eqGuard v t x y z F;binOp v t z F:Sem Value).run P w=.ok u w/\rel s d u:=by
 unfold binD at f;split at f
 ·rename_i k a X b;simp only[rel]at i l;subst i;subst l;exact zov (by simpa only[binD] using f)
 ·rename_i a b;simp only[rel]at i l;subst i;subst l;have I:(eqGuard v t x y (.bool a) (.bool b)).run P w=.ok () w:=by
   unfold eqGuard;cases v<;>simp
  simp only[Sem.run_bind,I,Result.andThen_ok];split at f
  ·split at f<;>first|(cases f;done)|skip
   rename_i h;cases f;exact⟨.bool (a==b),zow h a b w,by simp[rel]⟩
  ·split at f<;>first|(cases f;done)|skip
   rename_i h;cases f;exact⟨.bool (a != b),zox h a b w,by simp[rel]⟩
  ·cases f
 ·rename_i a b;simp only[rel]at i l;subst i;subst l;have I:(eqGuard v t x y (.string a) (.string b)).run P w=.ok () w:=by
   unfold eqGuard;cases v<;>simp
  simp only[Sem.run_bind,I,Result.andThen_ok];split at f
  ·cases f;exact⟨.bool (decide (a=b)),by simp only[binOp,Op.stringOp,zn6];rfl,by simp[rel]⟩
  ·cases f;exact⟨.bool (decide (a≠b)),by simp only[binOp,Op.stringOp,zn6];simp,by simp[rel]⟩
  ·cases f;exact⟨_,by simp only[binOp,Op.stringOp];rfl,by simp[rel]⟩
  ·split at f
   ·rename_i N;cases f;have J:¬(((a.size+b.size:Nat):Int) > IntKind.i64.max):=by
     have:IntKind.i64.max=9223372036854775807:=rfl;omega
    exact⟨.string (a++b),by simp only[binOp,Op.stringOp,if_neg J];rfl,by simp[rel]⟩
   ·cases f
  ·cases f
 ·rename_i a b;have C:=i;have E:=l;simp only[rel]at i l;obtain⟨U,rfl,G,W⟩:=i;obtain⟨Y,rfl,Q,O⟩:=l;split at f
  ·split at f<;>first|(cases f;done)|skip
   rename_i p;simp only[Z1]at f;obtain⟨r,G,rfl⟩:=f;have:=zis (P:=P) s 8 Op.maxDepth t _ _ _ _ r (by decide) G C E w;exact⟨.bool r,by simp only[Sem.run_bind,zei p,Result.andThen_ok];exact z9n this (by simp) (by simp) (by simp) (by simp),by simp[rel]⟩
  ·split at f<;>first|(cases f;done)|skip
   rename_i p;simp only[Z1]at f;obtain⟨r,G,rfl⟩:=f;have:=zis (P:=P) s 8 Op.maxDepth t _ _ _ _ r (by decide) G C E w;exact⟨.bool (!r),by simp only[Sem.run_bind,zei p,Result.andThen_ok];exact zcq this (by simp) (by simp) (by simp) (by simp),by simp[rel]⟩
  ·cases f
 ·have q:F=.slice none 0 0:=by simpa only[rel] using l
  subst q
  have j:∀(b:Bool),zhj dx=some b->(dx=.nil \/ ∃K L m,dx=.rsl K L m)->∀e,z3g P t=some e ->
    ∃a n c,z=.slice a n c/\(Op.equal t z (.slice none 0 0)).run P w=.ok b w:=by
   intro b h R e o;have A:=z2t o;rcases R with rfl|⟨K,L,m,rfl⟩
   ·simp only[rel]at i;subst i;simp only[zhj,Z0]at h;subst h;exact⟨_,_,_,rfl,zaa A _ _ _ w⟩
   ·have H:b=false:=by
     cases K with
     |true=>simp only[zhj,Z0]at h;exact h.symm
     |false=>cases m<;>simp only[zhj,Z0,reduceCtorEq]at h;exact h.symm
    subst H;simp only[rel]at i;rcases i with ⟨rfl,rfl,rfl⟩|⟨a,cap,U,rfl,_⟩
    ·simp[zhj]at h
    ·exact⟨_,_,_,rfl,zaa A _ _ _ w⟩
  split at f
  ·rename_i e o;split at f
   ·rename_i M;simp only[Z1]at f;obtain⟨b,h,rfl⟩:=f;obtain⟨a,n,c,rfl,g⟩:=j b h (.inl rfl) e o;exact⟨.bool b,by simp only[Sem.run_bind,z53,Result.andThen_ok];exact z9n g (by simp) (by simp) (by simp) (by simp),by simp[rel]⟩
   ·simp only[Z1]at f;obtain⟨b,h,rfl⟩:=f;obtain⟨a,n,c,rfl,g⟩:=j b h (.inr ⟨_,_,_,rfl⟩) e o;exact⟨.bool b,by simp only[Sem.run_bind,z53,Result.andThen_ok];exact z9n g (by simp) (by simp) (by simp) (by simp),by simp[rel]⟩
   ·cases f
  ·rename_i e o;split at f
   ·simp only[Z1]at f;obtain⟨b,h,rfl⟩:=f;obtain⟨a,n,c,rfl,g⟩:=j b h (.inl rfl) e o;exact⟨.bool (!b),by simp only[Sem.run_bind,z53,Result.andThen_ok];exact zcq g (by simp) (by simp) (by simp) (by simp),by simp[rel]⟩
   ·simp only[Z1]at f;obtain⟨b,h,rfl⟩:=f;obtain⟨a,n,c,rfl,g⟩:=j b h (.inr ⟨_,_,_,rfl⟩) e o;exact⟨.bool (!b),by simp only[Sem.run_bind,z53,Result.andThen_ok];exact zcq g (by simp) (by simp) (by simp) (by simp),by simp[rel]⟩
   ·cases f
  ·cases f
 ·have q:F=.pointer none:=by simpa only[rel] using l
  subst q;have j:∀(b:Bool),zsp dx=some b->ptrT P t=true->∃a,z=.pointer a/\(Op.equal t z (.pointer none)).run P w=.ok b w:=by
   intro b h B;obtain⟨e,A⟩:=ptrT_some B;unfold zsp at h;split at h
   ·simp only[rel]at i;subst i;cases h;exact⟨_,rfl,zab A none w⟩
   ·simp only[rel]at i;obtain⟨a,u,rfl,_⟩:=i;cases h;exact⟨_,rfl,zab A _ w⟩
   ·simp only[rel]at i;obtain⟨_,⟨a,rfl⟩,_⟩:=i;cases h;exact⟨_,rfl,zab A _ w⟩
   ·cases h
  split at f
  ·split at f
   ·rename_i B;simp only[Z1]at f;obtain⟨b,h,rfl⟩:=f;obtain⟨a,rfl,g⟩:=j b h B;exact⟨.bool b,by simp only[Sem.run_bind,zej,Result.andThen_ok];exact z9n g (by simp) (by simp) (by simp) (by simp),by simp[rel]⟩
   ·cases f
  ·split at f
   ·rename_i B;simp only[Z1]at f;obtain⟨b,h,rfl⟩:=f;obtain⟨a,rfl,g⟩:=j b h B;exact⟨.bool (!b),by simp only[Sem.run_bind,zej,Result.andThen_ok];exact zcq g (by simp) (by simp) (by simp) (by simp),by simp[rel]⟩
   ·cases f
  ·cases f
 ·cases f

end Abs
namespace Abs
open Go.RowKit
variable {P:Program}

theorem z54{s:RS}{w:World}(h:RH P s w){e:TypeId}{n m:Nat}(W:0<n){y:D}{news:List D}{v:Value}(hs:z0d P e=n)
  (b:z7b s.H e n y=some (m,news)) (x:rel s y v) :
  (v=.slice none 0 0/\m=0/\news=[]) \/ ∃a c d,v=.slice (some a) m c/\relAll s news d/\z7a d/\d.length=m*n/\∀j u,d[j]?=some u->w.cell? (a.add j)=some u:=by
 unfold z7b at b;split at b
 ·rename_i nn i Y;split at b
  ·rename_i t;subst t;simp only[Z1]at b;obtain⟨R,p,B⟩:=b;simp only[Z3]at B;obtain⟨rfl,rfl⟩:=B;simp only[rel]at x;rcases x with ⟨_,rfl,rfl⟩|⟨a,cap,d,rfl,_,_,I,q⟩
   ·simp only[z21,Z0]at p;subst p;exact .inl ⟨rfl,rfl,rfl⟩
   ·obtain⟨K,Z,U⟩:=zbc p I;have C:=zdp U;refine .inr ⟨a,cap,_,rfl,K,Z,by rw[C,z0j I],fun j u F=>?_⟩;have M:j<d.length*i:=by
     rcases Zr j (d.length*i)with h9|h9
     ·exact h9
     ·rw[Z7 (by rw[C];exact h9)]at F;cases F
    have hi:j / i<d.length:=(Nat.div_lt_iff_lt_mul W).2 M;have J:d[j / i]?=some d[j / i]:=Z9 hi;obtain⟨G,hc⟩:=q _ _ J;have N:j % i<d[j / i].cells.toList.length:=by simp only[Zj,G];exact Ya _ W
    have z:=Z9 N;have f:=zn5 U _ _ _ _ J z;have A:j / i*i+j % i=j:=by rw[Nat.mul_comm];exact Nat.div_add_mod j i
    rw[A,F]at f;cases f;have:=hc _ _ z;rw[z7m,A]at this;exact(h.mem _ _ this).1
  ·cases b
 ·simp only[Z0,Z3]at b;obtain⟨rfl,rfl⟩:=b;simp only[rel]at x;exact .inl ⟨x,rfl,rfl⟩
 ·rename_i id k;split at b
  ·rename_i e' k' R E;split at b
   ·rename_i hk;obtain⟨rfl,rfl⟩:=hk;simp only[Z0,Z3]at b;obtain⟨rfl,rfl⟩:=b;simp only[rel]at x;obtain⟨_,_,r⟩:=x;have J:=(r _ _ _ E).2 rfl;subst J;obtain⟨d,Q,I,K,L,o⟩:=z3w h E;have t:=hs;rcases Q.2 with ⟨l,O⟩|⟨g,cap,X,l,_⟩
    ·subst O;have hx:d=[]:=Z5 (by simpa using Q.1);subst hx;have:R=[]:=Z5 (by simpa using L);subst this;exact .inl ⟨l,rfl,rfl⟩
    ·refine .inr ⟨⟨g,0,none⟩,cap,d,l,I,K,by rw[Q.1,t],fun j u F=>?_⟩;rw[z1i,Za];exact o g (by rw[l];rfl) j u F
   ·cases b
  ·cases b
 ·cases b

theorem z5z{w:World}{t ty e:TypeId}{v y:Value}{n m:Nat}{xs vs:List Value}(B:P.underlying t=some (.slice e))(J:0<z0d P e)(hz:z5f P e=true)
  (d:w.ownsRow 0 e (z0d P e) v n xs) (f:(n+m)*z2l P e<=140737488355328) (E:n+m<=maxLen)
  (hy:(y=.slice none 0 0/\m=0/\vs=[]) \/ ∃a c,y=.slice (some a) m c/\z7a vs/\vs.length=m*z0d P e/\∀j u,vs[j]?=some u->w.cell? (a.add j)=some u) :
  ∃C K,(Builtin.append_ #[t,t] ty #[v,y]).run P w=.ok C K/\K.ownsRow 0 e (z0d P e) C (n+m) (xs++vs)/\w.grownBy K v.ownBlock /\
   (∀b,blockOf C=some b->blockOf v=some b \/ w.heap.size<=b)/\(m=0->C=v):=by
 obtain⟨i,z,p,A,U⟩:=z52 hz;have k:i.size=z0d P e:=by simp[z0d,p]
 have r:i.bytes=z2l P e:=by simp[z2l,p]
 rcases hy with ⟨rfl,rfl,rfl⟩|⟨a,c,rfl,W,G,M⟩
 ·refine⟨v,w,?_,by simpa using d,⟨rfl,rfl,rfl,Z2 _,fun _ _ _=>rfl⟩,fun b o=>.inl o,fun _=>rfl⟩;rcases d.2 with ⟨rfl,rfl⟩|⟨g,cap,q,rfl,_,_,H,_⟩
  ·simp[Builtin.append_,run_underlying B,sizeOf,typeInfo,p,Builtin.lenOf,Builtin.firstCells]
  ·simp[Builtin.append_,run_underlying B,sizeOf,typeInfo,p,Builtin.lenOf,Builtin.firstCells,H,storeCells]
 ·obtain⟨C,K,N,x,Z,I⟩:=run_append_own (P:=P) w 0 t ty e i z (z0d P e) (z2l P e) B p A k r U J v n xs d a m c vs G M W E f (Zs _);refine⟨C,K,N,x,Z,?_⟩;have O:n+m<=9223372036854775807:=by simp only[maxLen]at E;omega
  rcases d.2 with ⟨rfl,rfl⟩|⟨g,cap,q,rfl,_,hh,H,Y,Q,R⟩
  ·by_cases X:m=0
   ·subst X;have:=I.2 ⟨rfl,rfl⟩;subst this;exact⟨fun b o=>.inl o,fun _=>rfl⟩
   ·have h:=run_append_nil (P:=P) w t ty e i z B p A a m c vs (by rw[G,k]) M (by omega) (by omega) (by rw[r];simp only[Za]at f;omega);rw[N]at h;cases h;refine⟨fun b o=>.inr ?_,fun L=>(X L).elim⟩;simp only[blockOf,Z0]at o;omega
  ·by_cases l:n+m<=cap
   ·have F:n*z0d P e+vs.length<=q.size:=by rw[G,Q,<-Z6];exact Zq _ l
    have h:=run_append_room (P:=P) w t ty e i B p g n cap q hh a m c vs (by rw[G,k]) M W l (by rw[k];exact F);rw[N]at h;cases h;refine⟨fun b o=>.inl o,fun L=>by subst L;rfl⟩
   ·have s:∀j u,xs[j]?=some u->w.cell? ((⟨g,0,none⟩:Addr).add j)=some u:=d.cells (g:=g) rfl;have h:=run_append_grow (P:=P) w t ty e i z B p A ⟨g,0,none⟩ n cap xs (by rw[d.1,k]) s a m c vs (by rw[G,k]) M (by omega) (by omega) (by rw[r];exact growslice_fits (by omega) f);rw[N]at h;cases h;refine⟨fun b o=>.inr ?_,fun L=>by omega⟩;simp only[blockOf,Z0]at o;omega

theorem z55{w:World}{b:Nat}{e:TypeId}{sz:Nat}{v:Value}{n:Nat}{xs:List Value}(h:w.ownsRow b e sz v n xs):v.ownBlock=blockOf v:=by
 rcases h.2 with ⟨rfl,_⟩|⟨g,cap,a,rfl,_⟩<;>rfl
theorem z7f{w:World}{b:Nat}{e:TypeId}{sz:Nat}{v:Value}{n:Nat}{xs:List Value}(h:w.ownsRow b e sz v n xs):∃a c,v=.slice a n c:=by
 rcases h.2 with ⟨rfl,rfl⟩|⟨g,cap,d,rfl,_⟩<;>exact⟨_,_,rfl⟩

theorem zgy{s:RS}{w:World}(h:RH P s w){t ty:TypeId}{x y d:D}{vx vy:Value}{H:HM}{nx:Nat}(l:z8z P s.H s.nx t x y=some (d,H,nx))(hx:rel s x vx)(hy:rel s y vy) :
  ∃v R r,(Builtin.append_ #[t,t] ty #[vx,vy]).run P w=.ok v r/\Step s w R r/\RH P R r/\R.H=H/\R.nx=nx/\rel R d v:=by
 unfold z8z at l;cases he:z3g P t with
 |none=>rw[he]at l;cases l
 |some e =>
  rw[he]at l;have hu:=z2t he;simp only at l;split at l
  ·rename_i hc;obtain⟨C,hz⟩:=hc;simp only[Z4]at l;obtain⟨⟨m,p⟩,c3,l⟩:=l;have hs:=z54 h C rfl c3 hy;obtain⟨E,I,A⟩:∃E:List Value,relAll s p E/\z7a E/\((vy=.slice none 0 0/\m=0/\E=[]) \/ ∃a c,vy=.slice (some a) m c/\z7a E/\E.length=m*z0d P e/\∀j u,E[j]?=some u->w.cell? (a.add j)=some u):=by
    rcases hs with ⟨U,W,h3⟩|⟨a,c,E,U,W,h3,h4,h5⟩
    ·exact⟨[],by rw[h3];exact z15,zon,.inl ⟨U,W,rfl⟩⟩
    ·exact⟨E,W,h3,.inr ⟨a,c,U,h3,h4,h5⟩⟩
   obtain⟨Y,A⟩:=A;simp only at l;split at l
   ·split at l
    ·rename_i hb;simp only[Z0,Z3]at l;obtain⟨rfl,rfl,rfl⟩:=l;simp only[rel]at hx;subst hx;obtain⟨F,r,hr,g,B,G,_⟩:=z5z (ty:=ty) hu C hz (World.ownsRow_nil w 0 e (z0d P e)) (by simpa using hb.1) (by simpa using hb.2) A;simp only[Za,ZM]at g;have q:Grew w r:=⟨B.os,B.tape,B.output,B.size,fun k hk=>B.block k hk (by simp[Value.ownBlock])⟩
     have hl:=zcj h F (.row e m p)
     obtain⟨U,W⟩:=z7u h q (.row e m p) F (fun b a1=>by
      rcases G b a1 with h3|h3
      ·cases h3
      ·exact h3) ⟨E,g,relAll.later hl _ _ I,Y⟩
     refine⟨F,_,r,hr,U,W,rfl,rfl,?_⟩;simp only[rel];obtain⟨a,c,Q⟩:=z7f g;refine⟨by simp[RS.add],⟨a,c,Q⟩,fun e' k L hH=>?_⟩;simp only[RS.add,z0m,if_true,Z0,HObj.row.injEq]at hH;obtain⟨_,rfl,_⟩:=hH;exact⟨Z2 _,fun _=>by simp[RS.add]⟩
    ·cases l
   ·rename_i id n;cases M:s.H id with
    |none=>rw[M]at l;cases l
    |some o =>
     rw[M]at l;cases o<;>first|(cases l;done)|skip
     rename_i e' k L;simp only at l;split at l
     ·rename_i hb;obtain⟨rfl,rfl,c8,a2⟩:=hb;simp only[Z0,Z3]at l;obtain⟨rfl,rfl,rfl⟩:=l;simp only[rel]at hx;obtain⟨b5,_,a6⟩:=hx;have hv:=(a6 _ _ _ M).2 rfl;subst hv;obtain⟨vs,ho,d5,d3,_,_⟩:=z3w h M;obtain⟨F,r,hr,g,B,G,N⟩:=z5z (ty:=ty) hu C hz ho c8 a2 A
      obtain⟨U,W⟩:=z90 (w':=r) h id (.row e' n L) (.row e' (n+m) (L++p)) F M B.os B.tape B.output B.size
       (fun k hk d2=>B.block k hk (by rw[z55 ho];exact d2))
       (.inr ⟨n+m,L++p,rfl,Nat.le_add_right _ _,fun e3=>N (by omega)⟩)
       (fun b hb=>G b hb)
       (fun hl=>⟨vs++E,g,relAll.later hl _ _ (z17 d5 I),z32 d3 Y⟩)
      refine⟨F,_,r,hr,U,W,rfl,rfl,?_⟩;simp only[rel];obtain⟨a,c,Q⟩:=z7f g;refine⟨b5,⟨a,c,Q⟩,fun e2 k2 e1 hH=>?_⟩;simp only[RS.set,z0m,if_true,Z0,HObj.row.injEq]at hH;obtain⟨_,rfl,_⟩:=hH;exact⟨Z2 _,fun _=>by simp[RS.set]⟩
     ·cases l
   ·-- a slice without room behind it
    rename_i sz f;obtain⟨i,z,hi,e0,d9⟩:=z52 hz;have c4:i.size=z0d P e:=by simp[z0d,hi]
    have c9:i.bytes=z2l P e:=by simp[z2l,hi]
    have a8:=hx;simp only[rel]at a8;split at l
    ·rename_i N;subst N;simp only[Z0,Z3]at l;obtain⟨rfl,rfl,rfl⟩:=l;have d6:E=[]:=by
      rcases A with ⟨_,_,h3⟩|⟨a,c,_,_,h3,_⟩
      ·exact h3
      ·exact Z5 (by simpa using h3)
     subst d6;refine⟨vx,s,w,?_,Step.refl s w,h,rfl,rfl,hx⟩;rcases a8 with ⟨_,rfl⟩|⟨a0,c6,rfl,b8,_,_⟩
     ·rcases A with ⟨rfl,_,_⟩|⟨a,c,rfl,_,_,hc⟩
      ·simp[Builtin.append_,run_underlying hu,sizeOf,typeInfo,hi,Builtin.lenOf,Builtin.firstCells]
      ·have hf:=run_firstCells_some (P:=P) w i.size 0 a 0 c [] (by simp) (by simp);simp[Builtin.append_,run_underlying hu,sizeOf,typeInfo,hi,Builtin.lenOf,hf]
     ·rcases A with ⟨rfl,_,_⟩|⟨a,c,rfl,_,_,hc⟩
      ·simp[Builtin.append_,run_underlying hu,sizeOf,typeInfo,hi,Builtin.lenOf,Builtin.firstCells,storeCells]
      ·have hf:=run_firstCells_some (P:=P) w i.size 0 a 0 c [] (by simp) (by simp);simp[Builtin.append_,run_underlying hu,sizeOf,typeInfo,hi,Builtin.lenOf,hf,storeCells]
    ·rename_i N;split at l
     ·rename_i d1;obtain⟨rfl,b3,a3⟩:=d1;simp only[Z1]at l;obtain⟨L,a5,l⟩:=l;simp only[Z3]at l;obtain⟨rfl,rfl,rfl⟩:=l
      have a9:∀(F:Value) (r:World) (K:List Value),(Builtin.append_ #[t,t] ty #[vx,vy]).run P w=.ok F r->Grew w r->r.ownsRow 0 e (z0d P e) F (f.length+m) K->relAll s (L++p) K->z7a K->(∀b,blockOf F=some b->w.heap.size<=b) ->
        ∃v R r,(Builtin.append_ #[t,t] ty #[vx,vy]).run P w=.ok v r/\Step s w R r/\RH P R r/\R.H=z0m s.H s.nx (some (.row e (f.length+m) (L++p)))/\R.nx=s.nx+1/\rel R (.osl s.nx (f.length+m)) v:=by
       intro F r K hr q g b0 b9 G;have hl:=zcj h F (.row e (f.length+m) (L++p));obtain⟨U,W⟩:=z7u h q (.row e (f.length+m) (L++p)) F G ⟨K,g,relAll.later hl _ _ b0,b9⟩;refine⟨F,_,r,hr,U,W,rfl,rfl,?_⟩;simp only[rel];obtain⟨a,c,Q⟩:=z7f g;refine⟨by simp[RS.add],⟨a,c,Q⟩,fun e' k L hH=>?_⟩;simp only[RS.add,z0m,if_true,Z0,HObj.row.injEq]at hH;obtain⟨_,rfl,_⟩:=hH;exact⟨Z2 _,fun _=>by simp[RS.add]⟩
      rcases a8 with ⟨rfl,rfl⟩|⟨a0,c6,Z,b8,c1,b7⟩
      ·simp only[z21,Z0]at a5;subst a5;obtain⟨F,r,hr,g,B,G,_⟩:=z5z (ty:=ty) hu C hz (World.ownsRow_nil w 0 e (z0d P e)) (by simpa using b3) (by simpa using a3) A;simp only[Za,ZM]at g
       refine a9 F r E hr ⟨B.os,B.tape,B.output,B.size,fun k hk=>B.block k hk (by simp[Value.ownBlock])⟩ (by simpa using g) (by simpa using I) Y (fun b a1=>by
        rcases G b a1 with h3|h3
        ·cases h3
        ·exact h3)
      ·have d7:rel s (.rsl true (z0d P e) f) vx:=by
        simp only[rel];exact .inr ⟨a0,f.length,c6,Z,Z2 _,b8,c1,b7⟩
       have a7:z7b s.H e (z0d P e) (.rsl true (z0d P e) f)=some (f.length,L):=by simp[z7b,a5]
       rcases z54 h C rfl a7 d7 with ⟨rfl,_,_⟩|⟨b,c2,J,c5,d4,c7,b6,X⟩
       ·cases Z
       ·have d0:c2=f.length/\b=a0:=by rw[Z]at c5;cases c5;exact⟨rfl,rfl⟩
        obtain⟨rfl,rfl⟩:=d0;subst Z;rcases A with ⟨rfl,h0,_⟩|⟨a,c,rfl,U,hl,a4⟩
        ·exact(N h0).elim
        ·have c0:=run_append_grow (P:=P) w t ty e i z hu hi e0 b f.length f.length J (by rw[b6,c4]) X a m c E (by rw[hl,c4]) a4 (by omega) (by simp only[maxLen]at a3;omega) (by rw[c9];exact growslice_fits (by omega) (by simpa using b3));have q:Grew w (w.drew.alloc (.cells (J.toArray++E.toArray++Builtin.zeroCells z.cells (grownCap w (f.length+m) f.length e-(f.length+m))) e)):=Grew.of_drew (Grew.alloc _ _);have b4:=grownCap_ge w (f.length+m) f.length e;have O:(J++E).length=(f.length+m)*z0d P e:=by rw[Zh,b6,hl,Z6]
         refine a9 _ _ (J++E) c0 q ⟨O,.inr ⟨w.heap.size,_,_,rfl,Zs _,heap_alloc_new w.drew _,b4,grownCap_le_maxLen w (f.length+m) f.length e a3,?_,?_⟩⟩ (z17 d4 I) (z32 c7 Y) (fun b2 a2=>by simp only[blockOf,Z0]at a2;omega)
         ·have d8:(Builtin.zeroCells z.cells (grownCap w (f.length+m) f.length e-(f.length+m))).size=(grownCap w (f.length+m) f.length e-(f.length+m))*z0d P e:=by
           simp[Builtin.zeroCells,d9]
          rw[Zh]at O;simp only[Array.size_append,Y1,d8];rw[O,<-Z6]
          congr 1
          omega
         ·simp only[Array.toList_append,ZH];rw[<-ZH,List.take_append_of_le_length (by rw[O];exact Z2 _),ZS (by rw[O];exact Z2 _)]
     ·cases l
   ·cases l
  ·cases l

theorem zbd{α:Type}(l:List α):∀(k i:Nat),(Z8 k l).flatten[i]?=if i<k*l.length then l[i % l.length]? else none
 |0,i=>by simp
 |k+1,i=>by
  simp only[ZC,ZI,Zz]
  by_cases h:i<l.length
  ·rw[if_pos h,if_pos (by rw[Z6];omega),Y3 h]
  ·rw[if_neg h,zbd l k (i-l.length)]
   by_cases a:i<(k+1)*l.length
   ·have b:i-l.length<k*l.length:=by rw[Z6]at a;omega
    rw[if_pos b,if_pos a,<-Nat.mod_eq_sub_mod (by omega)]
   ·have b:¬i-l.length<k*l.length:=by rw[Z6]at a;omega
    rw[if_neg b,if_neg a]
theorem zhl(z:Array Value)(k:Nat):(madeCells z (k*z.size)).toList=(Z8 k z.toList).flatten:=by
  apply Zk;intro i;rw[zbd];simp only[madeCells,Array.toList_map,Array.toList_range,Ze,Zj]
  by_cases h:i<k*z.size
  · have b:0<z.size:=by rcases Nat.eq_zero_or_pos z.size with h0|h0;· rw[h0]at h;simp at h
                        · exact h0
    have a:=Ya i b;simp[h,a]
  · simp[h]

theorem zlo{s:RS}{a:List D}{vs:List Value}(h:relAll s a vs):∀k,relAll s (Z8 k a).flatten (Z8 k vs).flatten
 |0=>by simp[relAll]
 |k+1=>by simp only[ZC,ZI];exact z17 h (zlo h k)
theorem zvi{vs:List Value}(h:z7a vs):∀k,z7a (Z8 k vs).flatten
 |0=>by simp[z7a]
 |k+1=>by simp only[ZC,ZI];exact z32 h (zvi h k)

theorem zxu{s:RS}{w:World}(h:RH P s w){t e:TypeId}{J I:IntKind}{l:Int}{K:List D}(Q:z3g P t=some e)(d:z4t P e=some K)
  (E:0<=l) (W:l.toNat*z2l P e<=140737488355328) (m:l<=9223372036854775807) (j:0<z0d P e) :
  ∃v g C,(Instr.makeSlice t (.int J l) (.int I l)).run P w=.ok v C/\Step s w g C/\RH P g C/\g.H=z0m s.H s.nx (some (.row e l.toNat (Z8 l.toNat K).flatten))/\g.nx=s.nx+1/\rel g (.osl s.nx l.toNat) v:=by
 have y:=z2t Q;unfold z4t at d;simp only[Z4]at d;obtain⟨z,⟨i,r,B⟩,d⟩:=d;split at d
 ·rename_i O;obtain⟨f,q⟩:=O;cases d;have x:i.size=z0d P e:=by simp[z0d,r]
  have p:i.bytes=z2l P e:=by simp[z2l,r]
  have o:(i.bytes:Int)*l<=281474976710656:=by
   have L:(i.bytes:Int)*l=((l.toNat*z2l P e:Nat):Int):=by
    rw[p,Int.natCast_mul,Int.toNat_of_nonneg E,Int.mul_comm]
   rw[L];omega
  have G:=run_make (P:=P) w t e i z y r B J I l l E (ZA _) o m;have A:z7a z.cells.toList:=fun u y=>by simpa using Zu.1 q u y
  have c:madeCells z.cells (l.toNat*i.size)=(Z8 l.toNat z.cells.toList).flatten.toArray:=by
   apply ZE;rw[x,<-f,zhl]
  rw[c]at G;have a:(Z8 l.toNat z.cells.toList).flatten.length=l.toNat*z0d P e:=by
   simp[f]
  obtain⟨M,N⟩:=z7u h (Grew.alloc w (.cells (Z8 l.toNat z.cells.toList).flatten.toArray e)) (.row e l.toNat (Z8 l.toNat (z.cells.toList.map zhi)).flatten)
   (.slice (some ⟨w.heap.size,0,none⟩) l.toNat l.toNat) (fun b n=>by simp only[blockOf,Z0]at n;omega)
   ⟨(Z8 l.toNat z.cells.toList).flatten,⟨a,.inr ⟨w.heap.size,l.toNat,_,rfl,Zs _,heap_alloc_new w _,Z2 _,by simp only[maxLen];omega,by simpa using a,by
    rw[ZS (by rw[a];exact Z2 _)]⟩⟩,zlo (zdo _ _) _,zvi A _⟩
  refine⟨_,_,_,G,M,N,rfl,rfl,?_⟩;simp only[rel];refine⟨by simp[RS.add],⟨_,_,rfl⟩,fun U k R F=>?_⟩;simp only[RS.add,z0m,if_true,Z0,HObj.row.injEq]at F;obtain⟨_,rfl,_⟩:=F;exact⟨Z2 _,fun _=>by simp[RS.add]⟩
 ·cases d

end Abs
namespace Abs
open Go.RowKit
variable {P:Program}

mutual
theorem z2h{s s':RS}(l:∀a v,s.m a=some v->s'.m a=some v):∀(d:D) (v:Value),pureD d=true->rel s d v->rel s' d v
 | .any,_,_,_=>by simp[rel]
 | .int k n,v,_,c=>by simpa [rel] using c
 | .bool b,v,_,c=>by simpa [rel] using c
 | .str x,v,_,c=>by simpa [rel] using c
 | .agg t,v,e,c=>by
  simp only[pureD]at e;simp only[rel]at c⊢;obtain⟨g,h,j,p⟩:=c;exact⟨g,h,z28 l t g e j,p⟩
 | .tup t,v,e,c=>by
  simp only[pureD]at e;simp only[rel]at c⊢;obtain⟨g,h,j⟩:=c;exact⟨g,h,z28 l t g e j⟩
 | .nil,v,_,c=>by simpa [rel] using c
 | .rsl z y o,v,e,c=>by
  simp only[pureD]at e;simp only[rel]at c⊢;rcases c with c|⟨a,cap,g,h,j,p,w,q⟩
  ·exact .inl c
  ·exact .inr ⟨a,cap,g,h,j,p,z28 l o g e w,fun i u r=>⟨(q i u r).1,(q i u r).2.later l⟩⟩
 | .nptr,v,_,c=>by simpa [rel] using c
 | .rptr d,v,e,c=>by
  simp only[pureD]at e;simp only[rel]at c⊢;obtain⟨a,u,h,j,p⟩:=c;exact⟨a,u,h,z2h l d u e j,p.later l⟩
 | .nfun,v,_,c=>by simpa [rel] using c
 | .fn f cap,v,e,c=>by
  simp only[pureD]at e;simp only[rel]at c⊢;obtain⟨g,h,j⟩:=c;exact⟨g,h,z28 l cap g e j⟩
 | .bfn f first,v,e,c=>by
  simp only[pureD]at e;simp only[rel]at c⊢;obtain⟨g,h,j⟩:=c;exact⟨g,h,z28 l first g e j⟩
 | .osl ..,_,e,_=>by cases e
 | .ptr ..,_,e,_=>by cases e
 | .eptr ..,_,e,_=>by cases e
 | .mp _,_,e,_=>by cases e
 | .it _,_,e,_=>by cases e
 | .nmp,v,_,c=>by simpa [rel] using c
 | .e0,v,_,c=>by simpa [rel] using c
 | .fsl y o,v,e,c=>by
  simp only[pureD]at e;simp only[rel]at c⊢;rcases c with c|⟨a,g,h,p,w,q⟩
  ·exact .inl c
  exact .inr ⟨a,g,h,p,z28 l o g e w,fun i u r=>⟨(q i u r).1,(q i u r).2.later l⟩⟩
theorem z28{s s':RS}(e:∀a v,s.m a=some v->s'.m a=some v):∀(ds:List D) (vs:List Value),pureD.pureL ds=true->relAll s ds vs->relAll s' ds vs
 |[],vs,_,b=>by simpa [relAll] using b
 |d::ds,vs,c,b=>by
  simp only[pureD.pureL,Zc]at c;simp only[relAll]at b⊢;obtain⟨v,r,f,g,h⟩:=b;exact⟨v,r,f,z2h e d v c.1 g,z28 e ds r c.2 h⟩
end
def zgz(b:Bool)(sz:Nat):Nat->List Value->List Value
 |0,_=>[]
 |n+1,a=>(if b=true then .agg (a.take sz).toArray else (a[0]?).getD undef)::zgz b sz n (a.drop sz)

theorem z48(a:Bool)(sz:Nat):∀(n:Nat) (vs:List Value),(zgz a sz n vs).length=n
 |0,_=>rfl
 |n+1,vs=>by simp[zgz,z48 a sz n]
theorem zcr(a:Bool)(sz:Nat):∀(n:Nat) (vs:List Value) (i:Nat),i<n->(zgz a sz n vs)[i]?=some (if a=true then .agg ((vs.drop (i*sz)).take sz).toArray else (vs[i*sz]?).getD undef)
 |0,_,i,h=>by omega
 |n+1,vs,0,_=>by simp[zgz]
 |n+1,vs,i+1,h=>by
  simp only[zgz,List.getElem?_cons_succ];rw[zcr a sz n _ i (by omega)];have:sz+i*sz=(i+1)*sz:=by rw[Z6];omega
  simp only[List.drop_drop,Zd,this]
theorem z95{s:RS}{b:Bool}{sz:Nat}(a:b=true \/ (b=false/\sz=1)):∀(n:Nat) (cs:List D) (vs:List Value),cs.length=n*sz->relAll s cs vs->z7a vs->relAll s (z23 b sz n cs) (zgz b sz n vs)
 |0,_,_,_,_,_=>z15
 |n+1,cs,vs,g,d,f=>by
  simp only[z23,zgz];have e:(cs.drop sz).length=n*sz:=by simp[g,Z6]
  refine z0y ?_ (z95 a n _ _ e (z6b sz d) (za8 f _));rcases a with rfl|⟨rfl,rfl⟩
  ·simp only[if_true,rel];exact⟨_,rfl,z4k sz d,z91 f _⟩
  ·simp only[Zn,if_false];cases cs with
   |nil=>simp at g
   |cons c cs =>
    simp only[relAll]at d;obtain⟨v,r,rfl,h,_⟩:=d
    simpa using h


theorem zvj{e:TypeId}(h:zv7 P e=true):z0r P e=true \/ (z0r P e=false/\z0d P e=1):=by
 unfold zv7 at h;simp only[Bool.or_eq_true,Zc,Bool.not_eq_true',beq_iff_eq]at h;exact h

noncomputable def RS.shut1(s:RS)(w:World)(id:Nat):RS :=
 {s with m:=fun a=>@ite _ (blockOf (s.κ id)=some a.block) (Classical.propDecidable _) (w.cell? a) (s.m a),H:=z0m s.H id none }
theorem zdq{s:RS}{w:World}(h:RH P s w){id:Nat}(x:s.H id≠none):Step s w (s.shut1 w id) w/\RH P (s.shut1 w id) w:=by
 have F:=h.fresh x;have u:∀a:Addr,blockOf (s.κ id)=some a.block->owned s a.block:=fun a l=>⟨id,F,x,l⟩
 have t:∀a v,s.m a=some v->(s.shut1 w id).m a=some v:=by
  intro a v f;simp only[RS.shut1];rw[if_neg (fun l=>(h.mem a v f).2 (u a l))];exact f
 have n:∀j,(s.shut1 w id).H j≠none->j≠id/\(s.shut1 w id).H j=s.H j:=by
  intro j q;simp only[RS.shut1,z0m]at q⊢
  by_cases c:j=id
  ·rw[if_pos c]at q;exact(q rfl).elim
  ·exact⟨c,if_neg c⟩
 have p:∀k,owned (s.shut1 w id) k->owned s k:=by
  rintro k ⟨j,q,z,l⟩;obtain⟨_,e⟩:=n j z;exact⟨j,q,by rw[<-e];exact z,l⟩
 have d:Later s (s.shut1 w id):=by
  refine⟨Z2 _,t,fun j _=>?_⟩;simp only[RS.shut1,z0m]
  by_cases c:j=id
  ·subst c;rw[if_pos rfl];unfold objLe;cases s.H j with
   |none=>rfl
   |some o=>cases o<;>exact .inl rfl
  ·rw[if_neg c];exact objLe.refl _ _
 refine⟨⟨rfl,rfl,rfl,Z2 _,Z2 _,t,fun a v f=>?_,d.objs,fun _ _ _=>rfl,fun k y=>.inl (p k y)⟩,?_,?_,?_,fun g=>rel.later d _ _ (h.glob g)⟩
 ·simp only[RS.shut1]at f
  by_cases l:blockOf (s.κ id)=some a.block
  ·exact .inr (.inr (u a l))
  ·rw[if_neg l]at f;exact .inl f
 ·intro a v f;simp only[RS.shut1]at f
  by_cases l:blockOf (s.κ id)=some a.block
  ·rw[if_pos l]at f;refine⟨f,?_⟩;rintro⟨j,q,z,B⟩;obtain⟨c,e⟩:=n j z;rw[e]at z;have r:blockOf (s.κ j)=some a.block:=B;exact h.apart j id z x c (by rw[r];simp) (by rw[r,l])
  ·rw[if_neg l]at f;exact⟨(h.mem a v f).1,fun y=>(h.mem a v f).2 (p _ y)⟩
 ·intro j o y;obtain⟨c,e⟩:=n j (by rw[y];simp);rw[e]at y;obtain⟨J,K⟩:=h.obj j o y;exact⟨J,K.mono d fun b L=>rfl⟩
 ·intro i j C q E A;obtain⟨_,G⟩:=n i C;obtain⟨_,I⟩:=n j q;rw[G]at C;rw[I]at q;exact h.apart i j C q E A

theorem ziv{s:RS}{w:World}(h:RH P s w){d d':D}{v:Value}{H H':HM}{nx O:Nat}(hH:s.H=H)(hn:s.nx=nx)(Q:rel s d v)(f:zks P (d,H,nx)=some (d',H',O)) :
  ∃C,Step s w C w/\RH P C w/\C.H=H'/\C.nx=O/\rel C d' v/\∀id n,d=.osl id n->C=s.shut1 w id:=by
 subst hH;subst hn;unfold zks at f;split at f
 ·rename_i x id n H0 a3 z;cases z;split at f
  ·rename_i e k R A;split at f
   ·rename_i hc;obtain⟨rfl,ho,hp⟩:=hc;have L:=zvj ho;simp only[Z0,Z3]at f;obtain⟨rfl,rfl,rfl⟩:=f;obtain⟨g1,g2⟩:=zdq h (id:=id) (by rw[A];simp);refine⟨s.shut1 w id,g1,g2,rfl,rfl,?_,fun _ _ h=>by cases h;rfl⟩;obtain⟨p,J,K,I,F,y⟩:=z3w h A;simp only[rel]at Q;obtain⟨a1,_,B⟩:=Q;have hv:=(B _ _ _ A).2 rfl;subst hv;have a0:=z28 g1.mem R p hp K;have hg:=z95 L n R p F a0 I;have G:(z23 (z0r P e) (z0d P e) n R).length=n:=by rw[<-z0j hg];exact z48 _ _ _ _
    simp only[rel];rcases J.2 with ⟨l,Y⟩|⟨g,cap,a2,l,_,hh,Z,X,_⟩
    ·subst Y;exact .inl ⟨trivial,by rw[z23],l⟩
    ·refine .inr ⟨⟨g,0,none⟩,cap,_,by rw[G];exact l,by rw[G];exact Z,X,hg,fun i u M=>?_⟩;have hi:i<n:=by
      rcases Zr i n with h9|h9
      ·exact h9
      ·rw[Z7 (by rw[z48];exact h9)]at M;cases M
     rw[zcr _ _ _ _ _ hi]at M;simp only[Z0]at M;subst M;have N:p.length=n*z0d P e:=by rw[z0j K];exact F
     have r:i*z0d P e+z0d P e<=n*z0d P e:=by
      have:=Zq (z0d P e) (show i+1<=n by omega);rw[Z6]at this;omega
     have b:∀j c,p[j]?=some c->(s.shut1 w id).m ⟨g,j,none⟩=some c:=by
      intro j c o;simp only[RS.shut1];rw[if_pos (by rw[l];rfl)];exact y g (by rw[l];rfl) j c o
     rcases L with t|⟨t,E⟩
     ·rw[if_pos t];refine⟨by simp[Value.cells];omega,fun j c o=>?_⟩;rw[z1i,z1i,Za];simp only[Value.cells,Zb,Zd]at o;split at o
      ·exact b _ _ o
      ·cases o
     ·rw[if_neg (by rw[t];simp)];rw[E]at r N⊢;simp only[ZL]at r N⊢;have q:p[i]?=some p[i]:=Z9 (by omega);have U:(p[i]).oneCell'=true:=I _ (Y4 _);rw[q];simp only[Y5];rw[z2v U];refine⟨rfl,fun j c o=>?_⟩;cases j with
      |zero =>
       simp at o;subst o;rw[z1i,z1i,Za];exact b _ _ q
      |succ j=>simp at o
   ·cases f
  ·cases f
 ·rename_i z;cases z;simp only[Z0,Z3]at f;obtain⟨rfl,rfl,rfl⟩:=f;refine⟨s,Step.refl s w,h,rfl,rfl,?_,fun _ _ h=>by cases h⟩;simp only[rel]at Q⊢;rcases Q with ⟨E,W⟩|⟨a,p,E,W,h3,h4⟩
  ·exact .inl ⟨trivial,E,W⟩
  ·exact .inr ⟨a,_,p,E,Z2 _,W,h3,h4⟩
 ·cases f

theorem zxv(a b:List D):pureD.pureL (a++b)=(pureD.pureL a&&pureD.pureL b):=by
 induction a with
 |nil=>rfl
 |cons x a c=>simp only[List.cons_append,pureD.pureL,c,Bool.and_assoc]
theorem zn7{s:RS}{w w':World}{e:TypeId}{m cap:Nat}{news:List D}{us:List Value}(h:RH P s w)(C:Grew w w')(G:zv7 P e=true)(b:us.length=m*z0d P e)
  (z:relAll s news us) (H:pureD.pureL news=true) (y:z7a us) (F:m<=cap) (B:cap<=maxLen)
  (l:∀j u,us[j]?=some u->w'.cell? ⟨w.heap.size,j,none⟩=some u) (nn:Bool) :
  rel (s.grow w w') (.rsl nn (z0d P e) (z23 (z0r P e) (z0d P e) m news)) (.slice (some ⟨w.heap.size,0,none⟩) m cap):=by
 have q:=zvj G;obtain⟨A,_⟩:=zck h C;have x:=z28 A.mem news us H z;have v:news.length=m*z0d P e:=by rw[<-z0j z];exact b
 have o:=z95 q m news us v x y;have n:(z23 (z0r P e) (z0d P e) m news).length=m:=by rw[<-z0j o];exact z48 _ _ _ _
 simp only[rel];refine .inr ⟨⟨w.heap.size,0,none⟩,cap,_,by rw[n],by rw[n];exact F,B,o,fun i u r=>?_⟩;have E:i<m:=by
  rcases Zr i m with h9|h9
  ·exact h9
  ·rw[Z7 (by rw[z48];exact h9)]at r;cases r
 rw[zcr _ _ _ _ _ E]at r;simp only[Z0]at r;subst r;have g:i*z0d P e+z0d P e<=m*z0d P e:=by
  have:=Zq (z0d P e) (show i+1<=m by omega);rw[Z6]at this;omega
 have a:∀j c,us[j]?=some c->(s.grow w w').m ⟨w.heap.size,j,none⟩=some c:=by
  intro j c d;simp only[RS.grow];rw[if_neg (by simp)];exact l j c d
 rcases q with k|⟨k,p⟩
 ·rw[if_pos k];refine⟨by simp[Value.cells];omega,fun j c d=>?_⟩;rw[z1i,z1i,Za];simp only[Value.cells,Zb,Zd]at d;split at d
  ·exact a _ _ d
  ·cases d
 ·rw[if_neg (by rw[k];simp)];rw[p]at g b⊢;simp only[ZL]at g b⊢;have f:us[i]?=some us[i]:=Z9 (by omega);have t:(us[i]).oneCell'=true:=y _ (Y4 _);rw[f];simp only[Y5];rw[z2v t];refine⟨rfl,fun j c d=>?_⟩;cases j with
  |zero =>
   simp at d;subst d;rw[z1i,z1i,Za];exact a _ _ f
  |succ j=>simp at d

theorem zn8{s:RS}{w:World}(h:RH P s w){t ty:TypeId}{x y d:D}{vx vy:Value}(o:zkr P s.H t x y=some d)(hx:rel s x vx)(hy:rel s y vy) :
  ∃v s' w',(Builtin.append_ #[t,t] ty #[vx,vy]).run P w=.ok v w'/\Step s w s' w'/\RH P s' w'/\s'.H=s.H/\s'.nx=s.nx/\rel s' d v:=by
 unfold zkr at o;cases he:z3g P t with
 |none=>rw[he]at o;cases o
 |some e =>
  rw[he]at o;have U:=z2t he;simp only at o;split at o
  ·rename_i hc;obtain⟨Q,hz,E⟩:=hc;simp only[Z4]at o;obtain⟨⟨m,F⟩,a8,o⟩:=o;simp only at o;split at o
   ·rename_i hb;obtain⟨b4,B,hp⟩:=hb;have hs:=z54 h Q rfl a8 hy;obtain⟨i,z,K,O,c7⟩:=z52 hz;have J:i.size=z0d P e:=by simp[z0d,K]
    have L:i.bytes=z2l P e:=by simp[z2l,K]
    have b2:m<=9223372036854775807:=by simp only[maxLen]at B;omega
    have q:∀n,n<=maxLen->∀w0:World,n<=grownCap w0 n 0 e/\grownCap w0 n 0 e<=maxLen:=fun n hn w0=>⟨by simp only[grownCap,Question.cut];omega,grownCap_le_maxLen w0 n 0 e hn⟩
    split at o
    ·-- an empty literal
     cases o;simp only[rel]at hx;obtain⟨b,rfl⟩:=hx;have A:m=0->rel s (.rsl false (z0d P e) (z23 (z0r P e) (z0d P e) m F)) (.slice (some b) 0 0):=by
      intro Y;subst Y;simp only[rel,z23];exact .inr ⟨b,0,[],rfl,Z2 _,by simp[maxLen],z15,fun i v hv=>by simp at hv⟩
     rcases hs with ⟨rfl,rfl,rfl⟩|⟨a,c,p,rfl,R,Z,G,k⟩
     ·refine⟨.slice (some b) 0 0,s,w,?_,Step.refl s w,h,rfl,rfl,A rfl⟩;simp[Builtin.append_,run_underlying U,sizeOf,typeInfo,K,Builtin.lenOf,Builtin.firstCells,storeCells]
     ·by_cases Y:m=0
      ·subst Y;have a3:p=[]:=Z5 (by simpa using G);subst a3;refine⟨.slice (some b) 0 0,s,w,?_,Step.refl s w,h,rfl,rfl,A rfl⟩;have hf:=run_firstCells_some (P:=P) w i.size 0 a 0 c [] (by simp) (by simp);simp[Builtin.append_,run_underlying U,sizeOf,typeInfo,K,Builtin.lenOf,hf,storeCells]
      ·have l:=run_append_grow (P:=P) w t ty e i z U K O b 0 0 [] (by simp) (by simp) a m c p (by rw[G,J]) k (by omega) (by omega) (by rw[L];exact growslice_fits (by omega) (by simpa using b4));simp only[Za]at l;have f:Grew w (w.drew.alloc (.cells ((([]:List Value).toArray++p.toArray)++Builtin.zeroCells z.cells (grownCap w m 0 e-m)) e)):=Grew.of_drew (Grew.alloc _ _);obtain⟨W,X⟩:=zck h f;refine⟨_,_,_,l,W,X,rfl,rfl,zn7 h f E G R hp Z (q m B w).1 (q m B w).2 (fun j u I=>?_) false⟩;have C:j<p.length:=(Zm.1 I).1;rw[show (w.drew.alloc (.cells ((([]:List Value).toArray++p.toArray)++Builtin.zeroCells z.cells (grownCap w m 0 e-m)) e)).cell? ⟨w.heap.size,j,none⟩=_ from World.cell?_alloc_new (w:=w.drew) _ _ _];rw[Zi (by simpa using C)]
       simpa using I
    ·-- nil
     cases o;simp only[rel]at hx;subst hx;have A:m=0->F=[]->rel s (.rsl false (z0d P e) (z23 (z0r P e) (z0d P e) m F)) (.slice none 0 0):=by
      intro Y hn;subst Y;simp only[rel,z23];simp
     rcases hs with ⟨rfl,rfl,rfl⟩|⟨a,c,p,rfl,R,Z,G,k⟩
     ·refine⟨.slice none 0 0,s,w,?_,Step.refl s w,h,rfl,rfl,A rfl rfl⟩;simp[Builtin.append_,run_underlying U,sizeOf,typeInfo,K,Builtin.lenOf,Builtin.firstCells]
     ·by_cases Y:m=0
      ·subst Y;have a3:p=[]:=Z5 (by simpa using G);subst a3;have b9:F=[]:=Z5 (by rw[<-z0j R];rfl);refine⟨.slice none 0 0,s,w,?_,Step.refl s w,h,rfl,rfl,A rfl b9⟩;have hf:=run_firstCells_some (P:=P) w i.size 0 a 0 c [] (by simp) (by simp);simp[Builtin.append_,run_underlying U,sizeOf,typeInfo,K,Builtin.lenOf,hf]
      ·have l:=run_append_nil (P:=P) w t ty e i z U K O a m c p (by rw[G,J]) k (by omega) (by omega) (by rw[L];omega);have f:Grew w (w.drew.alloc (.cells (p.toArray++Builtin.zeroCells z.cells (grownCap w m 0 e-m)) e)):=Grew.of_drew (Grew.alloc _ _);obtain⟨W,X⟩:=zck h f;refine⟨_,_,_,l,W,X,rfl,rfl,zn7 h f E G R hp Z (q m B w).1 (q m B w).2 (fun j u I=>?_) false⟩;have C:j<p.length:=(Zm.1 I).1;rw[show (w.drew.alloc (.cells (p.toArray++Builtin.zeroCells z.cells (grownCap w m 0 e-m)) e)).cell? ⟨w.heap.size,j,none⟩=_ from World.cell?_alloc_new (w:=w.drew) _ _ _];rw[Zi (by simpa using C)]
       simpa using I
    ·-- a slice without room behind it
     rename_i sz g;split at o
     ·rename_i b7;obtain⟨c6,rfl,b5,a4⟩:=b7;simp only[Z4]at o;obtain⟨cs,a1,o⟩:=o;split at o
      ·rename_i c0;cases o;have b0:=hx;simp only[rel]at b0;rcases b0 with ⟨rfl,rfl⟩|⟨a0,c5,N,b8,a7,a6⟩
       ·-- nil
        simp only[z21,Z0]at a1;subst a1;rcases hs with ⟨rfl,rfl,rfl⟩|⟨a,c,p,rfl,R,Z,G,k⟩
        ·omega
        ·have l:=run_append_nil (P:=P) w t ty e i z U K O a m c p (by rw[G,J]) k (by omega) (by omega) (by rw[L];omega);have f:Grew w (w.drew.alloc (.cells (p.toArray++Builtin.zeroCells z.cells (grownCap w m 0 e-m)) e)):=Grew.of_drew (Grew.alloc _ _);obtain⟨W,X⟩:=zck h f;refine⟨_,_,_,l,W,X,rfl,rfl,?_⟩;have:=zn7 h f E G R hp Z (q m B w).1 (q m B w).2 (fun j u I=>?_) true
         ·simpa using this
         have C:j<p.length:=(Zm.1 I).1;rw[show (w.drew.alloc (.cells (p.toArray++Builtin.zeroCells z.cells (grownCap w m 0 e-m)) e)).cell? ⟨w.heap.size,j,none⟩=_ from World.cell?_alloc_new (w:=w.drew) _ _ _];rw[Zi (by simpa using C)]
         simpa using I
       have c4:rel s (.rsl true (z0d P e) g) vx:=by
        simp only[rel];exact .inr ⟨a0,g.length,c5,N,Z2 _,b8,a7,a6⟩
       have a2:z7b s.H e (z0d P e) (.rsl true (z0d P e) g)=some (g.length,cs):=by simp[z7b,a1]
       have c3:=z54 h Q rfl a2 c4;rcases c3 with ⟨rfl,_,_⟩|⟨b,c2,r,a9,c1,b3,a5,M⟩
       ·cases N
       ·have b6:c2=g.length/\b=a0:=by rw[N]at a9;cases a9;exact⟨rfl,rfl⟩
        obtain⟨rfl,rfl⟩:=b6;subst N;rcases hs with ⟨rfl,rfl,rfl⟩|⟨a,c,p,rfl,R,Z,G,k⟩
        ·omega
        ·have l:=run_append_grow (P:=P) w t ty e i z U K O b g.length g.length r (by rw[a5,J]) M a m c p (by rw[G,J]) k (by omega) (by simp only[maxLen]at a4;omega) (by rw[L];exact growslice_fits (by omega) (by simpa using b5));have f:Grew w (w.drew.alloc (.cells (r.toArray++p.toArray++Builtin.zeroCells z.cells (grownCap w (g.length+m) g.length e-(g.length+m))) e)):=Grew.of_drew (Grew.alloc _ _);obtain⟨W,X⟩:=zck h f;refine⟨_,_,_,l,W,X,rfl,rfl,zn7 h f E (us:=r++p) (by rw[Zh,a5,G,Z6]) (z17 c1 R) (by rw[zxv,c0,hp];rfl) (z32 b3 Z) (grownCap_ge w (g.length+m) g.length e) (grownCap_le_maxLen w (g.length+m) g.length e a4) (fun j u I=>?_) true⟩;have C:j<(r++p).length:=(Zm.1 I).1;rw[show (w.drew.alloc (.cells (r.toArray++p.toArray++Builtin.zeroCells z.cells (grownCap w (g.length+m) g.length e-(g.length+m))) e)).cell? ⟨w.heap.size,j,none⟩=_ from World.cell?_alloc_new (w:=w.drew) _ _ _];rw[Zi (by simpa using C)]
         simpa using I
      ·cases o
     ·cases o
    ·cases o
   ·cases o
  ·cases o
end Abs
namespace Abs
open Go.RowKit
variable {P:Program}

theorem z8h:∀(a:List (D×D)) (i:Nat) (x:D),(z9f a i x).map (·.1)=a.map (·.1)
 |[],_,_=>rfl
 |_::_,0,_=>rfl
 |e::a,i+1,x=>by simp[z9f,z8h a i x]
theorem ziw:∀(a:List (D×D)) (i:Nat) (x:D),(z9f a i x).map (·.2)=(a.map (·.2)).set i x
 |[],_,_=>rfl
 |_::_,0,_=>rfl
 |e::a,i+1,x=>by simp[z9f,ziw a i x]

def zdr(s:RS)(l:List MapEntry)(a:Nat):Option (Nat×D)->Option (Nat×Value)->Prop
 |none,o=>o=none
 |some (i,d),o=>∃e,l[i]?=some e/\o=some (a+i,e.val)/\rel s d e.val

theorem zb1{s:RS}{w:World}{f:TypeId}{k:D}{p:Value}(E:rel s k p):∀(g:List (D×D)) (l:List MapEntry) (c:Nat) (r:Option (Nat×D)),z94 P f k g=some r ->
  relAll s (g.map (·.1)) (l.map (·.key))->relAll s (g.map (·.2)) (l.map (·.val))->∃o,(Instr.findAsking f p l c).run P w=.ok o w/\zdr s l c r o
 |[],l,c,r,h,a,t=>by
  simp only[z94,Z0]at h;subst h;simp only[ZJ,relAll,ZD]at a;subst a;exact⟨none,rfl,rfl⟩
 |(z,d)::g,l,c,r,h,a,t=>by
  cases l with
  |nil=>simp[relAll]at a
  |cons e l =>
   simp only[Zo,relAll]at a t;obtain⟨Q,N,A,v,x⟩:=a;obtain⟨R,O,B,u,y⟩:=t;simp only[ZN]at A B;obtain⟨rfl,rfl⟩:=A;obtain⟨rfl,rfl⟩:=B;simp only[z94]at h;have j:∀b,eqK P f k z=some b->(Op.equal f p e.key).run P w=.ok b w:=fun b m=>by
    unfold eqK at m;split at m
    ·exact zis s 8 10000 f k z p e.key b (by decide) m E v w
    ·cases m
   cases n:eqK P f k z with
   |none=>rw[n]at h;cases h
   |some b =>
    rw[n]at h;cases b with
    |true =>
     simp only[Z0]at h;subst h;refine⟨some (c,e.val),?_,e,rfl,rfl,u⟩;simp only[Instr.findAsking,Sem.run_bind,j _ n,Result.andThen_ok,if_true,Sem.run_pure]
    |false =>
     simp only[Z1]at h;obtain⟨F,K,rfl⟩:=h;obtain⟨o,L,C⟩:=zb1 E g l (c+1) F K x y;refine⟨o,?_,?_⟩
     ·simp only[Instr.findAsking,Sem.run_bind,j _ n,Result.andThen_ok,Zn,if_false];exact L
     ·cases F with
      |none=>exact C
      |some q =>
       obtain⟨i,M⟩:=q;obtain⟨G,H,I,J⟩:=C;exact⟨G,by simpa using H,by rw[I];congr 2;omega,J⟩

theorem zek{s:RS}{t:TypeId}{g:TypeDesc}(C:P.underlying t=some g)(n:(∃k,g=.int k) \/ g=.string \/ g=.bool){k:D}{y:Value}(L:rel s k y):∀(j:List (D×D)) (l:List MapEntry) (f:Nat) (r:Option (Nat×D)),z94 P t k j=some r ->
  relAll s (j.map (·.1)) (l.map (·.key))->relAll s (j.map (·.2)) (l.map (·.val))->∃o,Instr.findNow g y l f=some o/\zdr s l f r o
 |[],l,f,r,h,c,u=>by
  simp only[z94,Z0]at h;subst h;simp only[ZJ,relAll,ZD]at c;subst c;exact⟨none,rfl,rfl⟩
 |(E,d)::j,l,f,r,h,c,u=>by
  cases l with
  |nil=>simp[relAll]at c
  |cons e l =>
   simp only[Zo,relAll]at c u;obtain⟨W,R,z,M,w⟩:=c;obtain⟨X,U,A,v,x⟩:=u;simp only[ZN]at z A;obtain⟨rfl,rfl⟩:=z;obtain⟨rfl,rfl⟩:=A;simp only[z94]at h;have m:∀b,eqK P t k E=some b->Instr.sameNow g y e.key=some b:=fun b a=>by
    unfold eqK at a;split at a
    ·simp only[eqD,C]at a;rcases n with ⟨Q,rfl⟩|rfl|rfl
     ·split at a<;>first|(cases a;done)|skip
      all_goals simp_all [rel,Instr.sameNow]
     ·split at a<;>first|(cases a;done)|skip
      all_goals simp_all [rel,Instr.sameNow]
      all_goals (rw[<-a,Bool.eq_iff_iff,decide_eq_true_iff,MapKept.bytes_beq])
     ·split at a<;>first|(cases a;done)|skip
      all_goals simp_all [rel,Instr.sameNow]
    ·cases a
   cases p:eqK P t k E with
   |none=>rw[p]at h;cases h
   |some b =>
    rw[p]at h;cases b with
    |true =>
     simp only[Z0]at h;subst h;refine⟨some (f,e.val),?_,e,rfl,rfl,v⟩;simp only[Instr.findNow,m _ p]
    |false =>
     simp only[Z1]at h;obtain⟨F,K,rfl⟩:=h;obtain⟨o,N,B⟩:=zek C n L j l (f+1) F K w x;refine⟨o,?_,?_⟩
     ·simp only[Instr.findNow,m _ p];exact N
     ·cases F with
      |none=>exact B
      |some q =>
       obtain⟨i,O⟩:=q;obtain⟨G,H,I,J⟩:=B;exact⟨G,by simpa using H,by rw[I];congr 2;omega,J⟩

theorem zg4{b:TypeId}(h:keyT P b=true):∃a,P.underlying b=some a/\(((∃k,a=.int k) \/ a=.string \/ a=.bool) \/ ∃c,a=.struct c/\zcg P c.toList 0 (z0d P b)=true):=by
 unfold keyT at h;split at h
 ·exact⟨_,‹_›,.inl (.inl ⟨_,rfl⟩)⟩
 ·exact⟨_,‹_›,.inl (.inr (.inl rfl))⟩
 ·exact⟨_,‹_›,.inl (.inr (.inr rfl))⟩
 ·exact⟨_,‹_›,.inr ⟨_,rfl,h⟩⟩
 ·cases h

theorem zel{s:RS}{w:World}{f:TypeId}{k:D}{g:Value}(q:keyT P f=true)(m:rel s k g){a:List (D×D)}{l:List MapEntry}{r:Option (Nat×D)}(h:z94 P f k a=some r)
  (i:relAll s (a.map (·.1)) (l.map (·.key))) (j:relAll s (a.map (·.2)) (l.map (·.val))):∃o,(Instr.findKey f g l).run P w=.ok o w/\zdr s l 0 r o:=by
 obtain⟨t,c,p|⟨n,rfl,_⟩⟩:=zg4 q
 ·obtain⟨o,b,d⟩:=zek c p m a l 0 r h i j;exact⟨o,by simp[Instr.findKey,run_underlying c,b],d⟩
 ·obtain⟨o,b,d⟩:=zb1 (w:=w) m a l 0 r h i j;refine⟨o,?_,d⟩;cases l with
  |nil=>simpa [Instr.findKey,run_underlying c,Instr.findNow,Instr.findAsking] using b
  |cons e l =>
   have:Instr.findNow (.struct n) g (e::l) 0=none:=by simp[Instr.findNow,Instr.sameNow]
   simp only[Instr.findKey,Sem.run_bind,run_underlying c,Result.andThen_ok,this];exact b

def zt3(u:Value):Prop:=(∃k n,u=.int k n) \/ (∃x,u=.string x) \/ ∃b,u=.bool b
theorem zoy{u:Value}(h:zt3 u)(n:Nat):Instr.sameBits n u u=true:=by
 rcases h with ⟨k,m,rfl⟩|⟨x,rfl⟩|⟨b,rfl⟩
 ·simp[Instr.sameBits]
 ·simp only[Instr.sameBits];exact(MapKept.bytes_beq x x).2 rfl
 ·simp[Instr.sameBits]
theorem zds{t:TypeId}(h:zkq P t=true):∃a,P.underlying t=some a/\((∃k,a=.int k) \/ a=.string \/ a=.bool):=by
 unfold zkq at h;split at h
 ·exact⟨_,‹_›,.inl ⟨_,rfl⟩⟩
 ·exact⟨_,‹_›,.inr (.inl rfl)⟩
 ·exact⟨_,‹_›,.inr (.inr rfl)⟩
 ·cases h
theorem leafT_one{t:TypeId}(h:zkq P t=true):z0r P t=false/\z3a P t=true:=by
 obtain⟨b,a,⟨k,rfl⟩|rfl|rfl⟩:=zds h<;>simp[z0r,z3a,a]
theorem eq_leaf{s:RS}{t:TypeId}{d:Nat}{a b:D}{u v:Value}(e:zkq P t=true)(h:eqD P (d+1) t a b=some true)(g:rel s a u)(i:rel s b v):u=v/\zt3 u:=by
 obtain⟨k,f,c⟩:=zds e;simp only[eqD,f]at h;rcases c with ⟨j,rfl⟩|rfl|rfl
 ·split at h<;>first|(cases h;done)|skip
  all_goals simp_all [rel,zt3]
 ·split at h<;>first|(cases h;done)|skip
  all_goals simp_all [rel,zt3]
 ·split at h<;>first|(cases h;done)|skip
  all_goals simp_all [rel,zt3]
theorem zg5{t:TypeId}(h:zkq P t=true)(cs:List D)(off:Nat):z9j P t cs off=cs[off]?:=by
 obtain⟨a,b⟩:=leafT_one h;unfold z9j;rw[a,b];rfl
theorem zlp{s:RS}{n d:Nat}{xs q:List D}{vs us:List Value}(w:relAll s xs vs)(x:relAll s q us):∀(l:List Field) (off:Nat),zcg P l off n=true->z3o (eqD P (d+1)) P xs q l=some true ->
  ∀j,off<=j->j<n->∃u,vs[j]?=some u/\us[j]?=some u/\zt3 u
 |[],off,k,_,j,y,t=>by
  simp only[zcg,beq_iff_eq]at k;omega
 |f::l,off,k,c,j,y,t=>by
  simp only[zcg,Zc,beq_iff_eq,decide_eq_true_eq]at k;obtain⟨⟨⟨⟨z,A⟩,m⟩,_⟩,B⟩:=k;simp only[z3o]at c;rw[if_pos A,zg5 m,zg5 m,z]at c;cases g:xs[off]? with
  |none=>rw[g]at c;cases c
  |some a =>
   cases i:q[off]? with
   |none=>rw[g,i]at c;cases c
   |some b =>
    rw[g,i]at c;simp only at c;cases h:eqD P (d+1) f.type a b with
    |none=>rw[h]at c;cases c
    |some r =>
     rw[h]at c;simp only at c;split at c
     ·rename_i F;subst F
      by_cases C:j=off
      ·subst C;obtain⟨u,G,o⟩:=z38 w _ _ g;obtain⟨v,H,p⟩:=z38 x _ _ i;obtain⟨e,E⟩:=eq_leaf m h o p;exact⟨u,G,by rw[e];exact H,E⟩
      ·exact zlp w x l (off+1) B c j (by omega) t
     ·cases c
theorem zvk{t:TypeId}{ds:List D}(h:z9k P t (.agg ds)=true):ds.length=z0d P t:=by
 simp only[z9k,Zc,beq_iff_eq]at h;exact h.2
theorem eqD_two{d:Nat}{t:TypeId}{x y:D}:eqD P (d+2) t x y=match P.underlying t,x,y with
  |some .bool,.bool a,.bool b=>some (a==b)
  |some (.int _),.int k a,.int e b=>if k=e then some (a==b) else none
  |some .string,.str a,.str b=>some (decide (a=b))
  |some (.struct c),.agg f,.agg g=>if P.stoodInHeld t=false then z3o (eqD P (d+1)) P f g c.toList else none
  |_,_,_=>none:=rfl
theorem same_key0{s:RS}{f:TypeId}{k k':D}{v v':Value}(J:keyT P f=true)(d:Nat)(h:eqD P (d+2) f k k'=some true)(a:z9k P f k=true/\z9k P f k'=true)(q:rel s k v)(b:rel s k' v'):v=v'/\Instr.sameBits 10000 v v=true:=by
 ·obtain⟨U,z,H|⟨C,rfl,t⟩⟩:=zg4 J
  ·have I:zkq P f=true:=by
    unfold zkq;rw[z];rcases H with ⟨M,rfl⟩|rfl|rfl<;>rfl
   obtain⟨e,r⟩:=eq_leaf I h q b;exact⟨e,zoy r _⟩
  ·simp only[eqD_two,z]at h;split at h<;>first|(cases h;done)|skip
   all_goals first|(simp only[reduceCtorEq,Z0]at *;done)|skip
   rename_i E W X i;split at h
   ·simp only[Z0,TypeDesc.struct.injEq]at i;subst i;simp only[rel]at q b;obtain⟨B,rfl,l,_⟩:=q;obtain⟨L,rfl,m,_⟩:=b;have N:=zvk a.1;have O:=zvk a.2;have Q:=z0j l;have R:=z0j m;have n:=zlp l m C.toList 0 t h;have e:B=L:=by
     apply Zk;intro j
     by_cases p:j<z0d P f
     ·obtain⟨u,o,F,_⟩:=n j (Zs _) p;rw[o,F]
     ·rw[Z7 (by omega),Z7 (by omega)]
    refine⟨by rw[e],?_⟩;have g:∀x∈B,zt3 x:=by
     intro x K;obtain⟨j,p,rfl⟩:=ZV.1 K;obtain⟨u,o,_,G⟩:=n j (Zs _) (by omega);rw[Z9 p,Z0]at o;rw[o];exact G
    show Instr.sameBits (9999+1) _ _=true;simp only[Instr.sameBits,beq_self_eq_true,Bool.true_and,Zu];rintro⟨x,y⟩ c;have A:=c;rw[ZV]at c;obtain⟨j,p,w⟩:=c;rw[List.getElem_zip,Z3]at w;obtain⟨rfl,rfl⟩:=w;exact zoy (g _ (by simp)) _
   ·cases h
theorem same_key{s:RS}{c:TypeId}{k k':D}{v v':Value}(e:keyT P c=true)(h:eqK P c k k'=some true)(d:rel s k v)(b:rel s k' v'):v=v'/\Instr.sameBits 10000 v v=true:=by
 unfold eqK at h;split at h
 ·rename_i a;exact same_key0 e 6 h a d b
 ·cases h

theorem zem{w:World}{t:TypeId}{v:Value}(h:zkq P t=true)(e:Bool)(n:Nat):(Instr.checkKey e (n+1) t v).run P w=.ok () w:=by
 obtain⟨d,b,a⟩:=zds h;unfold Instr.checkKey;simp only[Sem.run_bind,run_underlying b,Result.andThen_ok];rcases a with ⟨c,rfl⟩|rfl|rfl<;>cases v<;>rfl
theorem zbe{s:RS}{w:World}{n k:Nat}{xs:List D}{vs:List Value}(o:relAll s xs vs)(c:z7a vs)(e:Bool)(y:xs.length=n):∀(l:List Field) (off:Nat),zcg P l off n=true ->
  (forIn l PUnit.unit fun f (_:PUnit)=>if f.name ≠ "_" then (do
   let x <-part f.type vs.toArray f.offset
   Instr.checkKey e (k+1) f.type x
   pure (ForInStep.yield PUnit.unit)) else pure (ForInStep.yield PUnit.unit):Sem PUnit).run P w=.ok PUnit.unit w
 |[],_,_=>by simp
 |f::l,off,p=>by
  simp only[zcg,Zc,beq_iff_eq,decide_eq_true_eq]at p;obtain⟨⟨⟨⟨q,r⟩,i⟩,z⟩,j⟩:=p;have v:off<n:=by
   have b:∀(l:List Field) (off:Nat),zcg P l off n=true->off<=n:=by
    intro l
    induction l with
    |nil=>intro off h;simp only[zcg,beq_iff_eq]at h;omega
    |cons g l a =>
     intro off h;simp only[zcg,Zc,beq_iff_eq,decide_eq_true_eq]at h;have:=a _ h.2;omega
   have:=b l (off+1) j;omega
  obtain⟨u,_,_,_,m⟩:=z6w (P:=P) (t:=f.type) (off:=off) (d:=xs[off]'(by omega)) (by rw[zg5 i,Z9]) o c;have a:=zbe (w:=w) (k:=k) o c e y l (off+1) j;simp only[List.forIn_cons,Sem.run_bind,q,m,Result.andThen_ok];simp only[r,ne_eq,not_false_eq_true,if_true,Sem.run_bind,m,Result.andThen_ok,zem i,Sem.run_pure];exact a
theorem zen {s:RS}{w:World}{b:TypeId}{k:D}{j:Value}(r:keyT P b=true)(a:z9k P b k=true)(i:rel s k j)(e:Bool):(Instr.checkKey e 10000 b j).run P w=.ok () w:=by
 obtain⟨y,d,o|⟨h,rfl,g⟩⟩:=zg4 r
 ·have p:zkq P b=true:=by
   unfold zkq;rw[d];rcases o with ⟨v,rfl⟩|rfl|rfl<;>rfl
  exact zem p e 9999
 ·have n:z0r P b=true:=by simp[z0r,d]
  have c:z3a P b=false:=by simp[z3a,d]
  unfold z9k at a;split at a
  ·rename_i u;simp only[Zc,beq_iff_eq]at a;simp only[rel]at i;obtain⟨t,rfl,q,m⟩:=i;have:=zbe (w:=w) (k:=9998) q m e a.2 h.toList 0 g;show (Instr.checkKey e (9999+1) b _).run P w=_;unfold Instr.checkKey;simp only[Sem.run_bind,run_underlying d,Result.andThen_ok];rw[<-Array.forIn_toList]
   have l:(Sem.run P (forIn h.toList PUnit.unit fun f (_:PUnit)=>if f.name ≠ "_" then (do
    let x <-part f.type t.toArray f.offset
    Instr.checkKey e (9998+1) f.type x
    pure (ForInStep.yield PUnit.unit)) else pure (ForInStep.yield PUnit.unit)) w)=.ok PUnit.unit w:=this
   rw[l];rfl
  ·cases a
  ·cases a
  ·rw[c]at a;cases a

theorem zxw{e:Array MapEntry}{c:Nat}{k v:Value}(h:zlh e c):zlh (e.push { key:=k,val:=v,born:=c }) (c+1):=by
 refine⟨fun x d=>?_,?_⟩
 ·rw[Y2,Y6,Y0]at d;rcases d with d|rfl
  ·exact Nat.lt_succ_of_lt (h.1 x d)
  ·exact Nat.lt_succ_self _
 ·rw[Y2,List.map_append,List.nodup_append];refine⟨h.2,by simp,fun a f b g=>?_⟩;obtain⟨x,d,rfl⟩:=ZT.1 f;simp only[Zo,ZJ,Y0]at g;have:=h.1 x d;omega
theorem zix{a:Array MapEntry}{i:Nat}{k v:Value}:(a.modify i fun e=>{ e with key:=k,val:=v }).toList.map (·.born)=a.toList.map (·.born):=by
 apply Zk;intro j;simp only[Ze,Zy,ZU];split
 ·cases a[j]?<;>rfl
 ·rfl
theorem zoz{b:Array MapEntry}{a i:Nat}{k v:Value}(h:zlh b a):zlh (b.modify i fun e=>{ e with key:=k,val:=v }) a:=by
 refine⟨fun x c=>?_,by rw[zix];exact h.2⟩;have:x.born∈b.toList.map (·.born):=by rw[<-zix (i:=i) (k:=k) (v:=v)];exact ZT.2 ⟨x,c,rfl⟩
 obtain⟨y,d,e⟩:=ZT.1 this;rw[<-e];exact h.1 y d
theorem stamp_nil:zlh #[] 0:=⟨fun x a=>by simp at a,by simp⟩
theorem map_obj{s:RS}{w:World}(h:RH P s w){id:Nat}{c:List (D×D)}(d:s.H id=some (.map c)) :
  ∃r b a,s.κ id=.map (some r)/\w.heap[r]?=some (.map b a)/\relAll s (c.map (·.1)) (b.toList.map (·.key))/\relAll s (c.map (·.2)) (b.toList.map (·.val))/\zlh b a:=(h.obj id _ d).2

theorem run_zeroD{t:TypeId}{d:D}(h:zeroD P t=some d):∃z:Value,(∀w,(zeroValue t).run P w=.ok z w)/\∀s,rel s d z:=by
 unfold zeroD at h;simp only[Z1,Z4]at h;obtain⟨z,⟨i,a,b⟩,rfl⟩:=h;exact⟨z,fun w=>by simp[zeroValue,typeInfo,a,b],fun s=>zsr s z⟩

theorem ziy{w:World}{t f k:TypeId}{h g v:Value}{j:Bool}{i:Nat}{b:Array MapEntry}(d:P.underlying t=some (.map f k))(m:(h=.map none/\b = #[]) \/ ∃r a,h=.map (some r)/\w.heap[r]?=some (.map b a))
  (c:(Instr.checkKey b.isEmpty 10000 f g).run P w=.ok () w) (e:(Instr.findKey f g b.toList).run P w=.ok (some (i,v)) w):(Instr.lookup t h g j).run P w=.ok (if j=true then .tuple #[v,.bool true] else v) w:=by
 rcases m with ⟨rfl,rfl⟩|⟨r,a,rfl,l⟩
 ·simp at c e;simp[Instr.lookup,run_underlying d,c,e]
 ·simp[Instr.lookup,run_underlying d,MapKept.run_getObj_map l,c,e]
theorem ziz{w:World}{t f i:TypeId}{h g z:Value}{k:Bool}{b:Array MapEntry}(d:P.underlying t=some (.map f i))(m:(h=.map none/\b = #[]) \/ ∃r a,h=.map (some r)/\w.heap[r]?=some (.map b a))
  (c:(Instr.checkKey b.isEmpty 10000 f g).run P w=.ok () w) (e:(Instr.findKey f g b.toList).run P w=.ok none w) (j:(zeroValue i).run P w=.ok z w):(Instr.lookup t h g k).run P w=.ok (if k=true then .tuple #[z,.bool false] else z) w:=by
 rcases m with ⟨rfl,rfl⟩|⟨r,a,rfl,l⟩
 ·simp at c e;simp[Instr.lookup,run_underlying d,c,e,j]
 ·simp[Instr.lookup,run_underlying d,MapKept.run_getObj_map l,c,e,j]
theorem zj0{a:TypeId}(h:ptrK P a=true):∃e,P.underlying a=some (.pointer e)/\z0d P e≠0/\∃i,P.info? e=some i:=by
 unfold ptrK at h;split at h
 ·rename_i e b;simp only[Zc,decide_eq_true_eq,ZP]at h;exact⟨e,b,h.1,h.2⟩
 ·cases h
theorem zj1{s:RS}{w:World}(h:RH P s w){p:TypeId}(J:ptrK P p=true){k k':D}{v v':Value}{b:Bool}(f:zli s.H k k'=some b)(A:rel s k v)(l:rel s k' v') :
  (Op.equal p v v').run P w=.ok b w/\(b=true->v=v'/\∃a,v=.pointer (some a)):=by
 obtain⟨e,B,y,z,u⟩:=zj0 J;have m:z.size≠0:=by simpa [z0d,u] using y
 unfold zli at f;split at f
 ·rename_i i j;split at f
  ·rename_i R O U Q r t;simp only[Z0]at f;subst f;simp only[rel]at A l;obtain⟨b1,n,rfl⟩:=A.2.2 _ _ r;obtain⟨q,o,rfl⟩:=l.2.2 _ _ t;obtain⟨_,F,M,C,K,_⟩:=h.obj _ _ r;obtain⟨_,G,N,E,L,_⟩:=h.obj _ _ t;rw[n]at C;rw[o]at E;cases C;cases E
   by_cases c:i=j
   ·subst c;rw[n]at o;cases o;rw[decide_eq_true rfl];refine⟨?_,fun _=>⟨rfl,_,rfl⟩⟩;have g:∀d:Nat,(Op.equalIn (d+1) p (.pointer (some ⟨b1,0,none⟩)) (.pointer (some ⟨b1,0,none⟩))).run P w=.ok true w:=fun d=>by
     simp[Op.equalIn,run_underlying B,typeInfo,sizeOf,u,run_sameAddr_same]
    simp only[Op.equal,Op.maxDepth];exact g 9999
   ·rw[decide_eq_false c];have I:b1≠q:=by
     have:=h.apart i j (by rw[r];simp) (by rw[t];simp) c (by rw[n];simp[blockOf]);rw[n,o]at this;intro e;subst e;exact this rfl
    refine⟨?_,fun h=>by cases h⟩;have x:(⟨b1,0,none⟩:Addr)≠⟨q,0,none⟩:=fun e=>I (Addr.mk.inj e).1;have g:∀d:Nat,(Op.equalIn (d+1) p (.pointer (some ⟨b1,0,none⟩)) (.pointer (some ⟨q,0,none⟩))).run P w=.ok false w:=fun d=>by
     simp[Op.equalIn,run_underlying B,typeInfo,sizeOf,u,m,run_sameAddr_other w x K L]
    simp only[Op.equal,Op.maxDepth];exact g 9999
  ·cases f
 ·cases f
theorem zh0{s:RS}{w:World}(h:RH P s w){E:TypeId}(C:ptrK P E=true){k:D}{F:Value}(B:rel s k F):∀(g:List (D×D)) (l:List MapEntry) (f:Nat) (r:Option (Nat×D)),zch s.H k g=some r ->
  relAll s (g.map (·.1)) (l.map (·.key))->relAll s (g.map (·.2)) (l.map (·.val))->∃o,(Instr.findAsking E F l f).run P w=.ok o w/\zdr s l f r o
 |[],l,f,r,a,c,n=>by
  simp only[zch,Z0]at a;subst a;simp only[ZJ,relAll,ZD]at c;subst c;exact⟨none,rfl,rfl⟩
 |(N,d)::g,l,f,r,a,c,n=>by
  cases l with
  |nil=>simp[relAll]at c
  |cons e l =>
   simp only[Zo,relAll]at c n;obtain⟨U,Q,y,u,v⟩:=c;obtain⟨W,R,z,t,x⟩:=n;simp only[ZN]at y z;obtain⟨rfl,rfl⟩:=y;obtain⟨rfl,rfl⟩:=z;simp only[zch]at a;cases p:zli s.H k N with
   |none=>rw[p]at a;cases a
   |some b =>
    rw[p]at a;have j:=(zj1 h C p B u).1;cases b with
    |true =>
     simp only[Z0]at a;subst a;refine⟨some (f,e.val),?_,e,rfl,rfl,t⟩;simp only[Instr.findAsking,Sem.run_bind,j,Result.andThen_ok,if_true,Sem.run_pure]
    |false =>
     simp only[Z1]at a;obtain⟨G,m,rfl⟩:=a;obtain⟨o,M,A⟩:=zh0 h C B g l (f+1) G m v x;refine⟨o,?_,?_⟩
     ·simp only[Instr.findAsking,Sem.run_bind,j,Result.andThen_ok,Zn,if_false];exact M
     ·cases G with
      |none=>exact A
      |some q =>
       obtain⟨i,O⟩:=q;obtain⟨I,J,K,L⟩:=A;exact⟨I,by simpa using J,by rw[K];congr 2;omega,L⟩
theorem zp0{s:RS}{w:World}(h:RH P s w){i:TypeId}(f:ptrK P i=true){k:D}{b:Value}(q:rel s k b){a:List (D×D)}{l:List MapEntry}{r:Option (Nat×D)}(p:zch s.H k a=some r)
  (m:relAll s (a.map (·.1)) (l.map (·.key))) (n:relAll s (a.map (·.2)) (l.map (·.val))):∃o,(Instr.findKey i b l).run P w=.ok o w/\zdr s l 0 r o:=by
 obtain⟨j,g,_⟩:=zj0 f;obtain⟨o,d,c⟩:=zh0 h f q a l 0 r p m n;refine⟨o,?_,c⟩;cases l with
 |nil=>simpa [Instr.findKey,run_underlying g,Instr.findNow,Instr.findAsking] using d
 |cons e l =>
  have:Instr.findNow (.pointer j) b (e::l) 0=none:=by cases b<;>cases e.key<;>simp[Instr.findNow,Instr.sameNow]
  simp only[Instr.findKey,Sem.run_bind,run_underlying g,Result.andThen_ok,this];exact d
theorem zh1{w:World}{a:TypeId}{v:Value}(b:ptrK P a=true)(e:Bool):(Instr.checkKey e 10000 a v).run P w=.ok () w:=by
 obtain⟨d,c,_⟩:=zj0 b;show (Instr.checkKey e (9999+1) a v).run P w=_;unfold Instr.checkKey;simp only[Sem.run_bind,run_underlying c,Result.andThen_ok];cases v<;>rfl
theorem zlq{H:HM}{k:D}:∀ {c:List (D×D)}{i:Nat}{v:D},zch H k c=some (some (i,v))->∃a,(c.map (·.1))[i]?=some a/\zli H k a=some true
 |[],i,v,h=>by simp[zch]at h
 |(a,d)::c,i,v,h=>by
  simp only[zch]at h;cases f:zli H k a with
  |none=>rw[f]at h;cases h
  |some b =>
   rw[f]at h;cases b with
   |true =>
    simp only[Z0,Z3]at h;obtain⟨rfl,rfl⟩:=h;exact⟨a,rfl,f⟩
   |false =>
    cases e:zch H k c with
    |none=>simp only[e]at h;cases h
    |some q =>
     cases q with
     |none=>simp only[e]at h;cases h
     |some q =>
      simp only[e,Zf,Z0,Z3]at h;obtain⟨rfl,rfl⟩:=h;obtain⟨l,g,j⟩:=zlq (i:=q.1) (v:=q.2) e;exact⟨l,by simpa using g,j⟩
theorem zp1{s:RS}{w:World}(h:RH P s w){t:TypeId}{x k d:D}{E:Bool}{M L:Value}(b:zec P s.H t x k E=some d)(Q:rel s x M)(R:rel s k L) :
  ∃u,(Instr.lookup t M L E).run P w=.ok u w/\rel s d u:=by
 unfold zec at b;split at b
 ·rename_i Y et N hm c
  have F:∀(O:Option (Option (Nat×D))),lookR (zeroD P et) E O=some d->(∀(a:Array MapEntry) r,relAll s (N.map (·.1)) (a.toList.map (·.key))->relAll s (N.map (·.2)) (a.toList.map (·.val))->O=some r->∃o,(Instr.findKey Y L a.toList).run P w=.ok o w/\zdr s a.toList 0 r o) ->
    (∀e,(Instr.checkKey e 10000 Y L).run P w=.ok () w)->∃u,(Instr.lookup t M L E).run P w=.ok u w/\rel s d u:=by
   intro O b A j;have I:=zkz hm;obtain⟨a,J,n,p⟩:∃a:Array MapEntry,((M=.map none/\a = #[]) \/ ∃r f,M=.map (some r)/\w.heap[r]?=some (.map a f))/\relAll s (N.map (·.1)) (a.toList.map (·.key))/\relAll s (N.map (·.2)) (a.toList.map (·.val)):=by
    unfold esD at c;split at c
    ·simp only[Z0]at c;subst c;simp only[rel]at Q;subst Q;exact⟨#[],.inl ⟨rfl,rfl⟩,by simp[relAll],by simp[relAll]⟩
    ·rename_i id;split at c
     ·rename_i Z W;simp only[Z0]at c;subst c;obtain⟨r,a,f,hκ,B,n,p,_⟩:=map_obj h W;simp only[rel]at Q;have K:=Q.2.2 _ W rfl;rw[hκ]at K;subst K;exact⟨a,.inr ⟨r,f,rfl,B⟩,n,p⟩
     ·cases c
    ·cases c
   cases y:O with
   |none=>rw[y]at b;cases b
   |some r =>
    rw[y]at b;obtain⟨o,X,l⟩:=A a r n p y;have G:=j a.isEmpty;cases r with
    |none =>
     simp only[lookR,Z1]at b;obtain⟨z,hz,rfl⟩:=b;obtain⟨zv,U,g⟩:=run_zeroD hz;have l:o=none:=l;subst l;refine⟨_,ziz I J G X (U w),?_⟩;cases E
     ·simpa using g s
     ·simp only[if_true,rel];exact⟨[zv,.bool false],rfl,z0y (g s) (z0y (by simp[rel]) z15)⟩
    |some q =>
     obtain⟨i,v⟩:=q;simp only[lookR,Z0]at b;obtain⟨e,_,rfl,m⟩:=l;refine⟨_,ziy I J G X,?_⟩;cases E
     ·simp only[Zn,if_false]at b⊢;subst b;exact m
     ·simp only[if_true]at b⊢;subst b;simp only[rel];exact⟨[e.val,.bool true],rfl,z0y m (z0y (by simp[rel]) z15)⟩
  split at b
  ·rename_i C;exact F _ b (fun a r n p y=>zel (w:=w) C.1 R y n p) (fun e=>zen (w:=w) C.1 C.2 R e)
  ·split at b
   ·rename_i C;exact F _ b (fun a r n p y=>zp0 h C R y n p) (fun e=>zh1 C e)
   ·cases b
 ·cases b

theorem zp2{f:TypeId}{k:D}:∀ {c:List (D×D)}{i:Nat}{v:D},z94 P f k c=some (some (i,v))->∃a,(c.map (·.1))[i]?=some a/\eqK P f k a=some true
 |[],i,v,h=>by simp[z94]at h
 |(a,d)::c,i,v,h=>by
  simp only[z94]at h;cases g:eqK P f k a with
  |none=>rw[g]at h;cases h
  |some b =>
   rw[g]at h;cases b with
   |true =>
    simp only[Z0,Z3]at h;obtain⟨rfl,rfl⟩:=h;exact⟨a,rfl,g⟩
   |false =>
    cases e:z94 P f k c with
    |none=>simp only[e]at h;cases h
    |some q =>
     cases q with
     |none=>simp only[e]at h;cases h
     |some q =>
      simp only[e,Zf,Z0,Z3]at h;obtain⟨rfl,rfl⟩:=h;obtain⟨m,j,l⟩:=zp2 (i:=q.1) (v:=q.2) e;exact⟨m,by simpa using j,l⟩
theorem zxx{w:World}{r:Nat}{o o':Obj}(a:w.heap[r]?=some o):({ w with heap:=w.heap.setIfInBounds r o' }:World).heap[r]?=some o'/\∀k,k≠r->({ w with heap:=w.heap.setIfInBounds r o' }:World).heap[k]?=w.heap[k]?:=MapKept.heap_set a

theorem zh2{s:RS}{w:World}(h:RH P s w){t:TypeId}{m k x:D}{mv l G:Value}{H:HM}(A:zci P s.H t m k x=some H)(hm:rel s m mv)(X:rel s k l)(hx:rel s x G) :
  ∃z C,(Instr.mapUpdate t mv l G).run P w=.ok () C/\Step s w z C/\RH P z C/\z.H=H/\z.nx=s.nx:=by
 unfold zci at A;split at A
 ·rename_i kt et id K;split at A
  ·rename_i Q hH
   have O:∀(Y:Option (Option (Nat×D))),(updR Q k x Y).map (fun o=>z0m s.H id (some o))=some H->(∀(d:Array MapEntry) r,relAll s (Q.map (·.1)) (d.toList.map (·.key))->relAll s (Q.map (·.2)) (d.toList.map (·.val))->Y=some r->∃o,(Instr.findKey kt l d.toList).run P w=.ok o w/\zdr s d.toList 0 r o) ->
     (∀e,(Instr.checkKey e 10000 kt l).run P w=.ok () w)->(∀i v,Y=some (some (i,v))->∃L,(Q.map (·.1))[i]?=some L/\∀e,rel s L e->l=e/\Instr.sameBits 10000 l l=true) ->
     ∃z C,(Instr.mapUpdate t mv l G).run P w=.ok () C/\Step s w z C/\RH P z C/\z.H=H/\z.nx=s.nx:=by
    intro Y A W I c0;simp only[Z1]at A;obtain⟨o',p,rfl⟩:=A;have K:=zkz K;obtain⟨r,d,n,hκ,f,M,R,b0⟩:=map_obj h hH;simp only[rel]at hm;have a7:=hm.2.2 _ hH rfl;rw[hκ]at a7;subst a7;have a0:=I false;have c2:r<w.heap.size:=za7 f
    have Z:∀(E:List (D×D)) (g:Array MapEntry) (c:Nat),(Instr.mapUpdate t (.map (some r)) l G).run P w=.ok () { w with heap:=w.heap.setIfInBounds r (.map g c) } ->
      relAll s (E.map (·.1)) (g.toList.map (·.key))->relAll s (E.map (·.2)) (g.toList.map (·.val))->zlh g c ->
      ∃z C,(Instr.mapUpdate t (.map (some r)) l G).run P w=.ok () C/\Step s w z C/\RH P z C/\z.H=z0m s.H id (some (.map E))/\z.nx=s.nx:=by
     intro E g c a9 b6 b7 b2;obtain⟨b8,b9⟩:=zxx (o':=.map g c) f
     obtain⟨g1,g2⟩:=z90 (w':={ w with heap:=w.heap.setIfInBounds r (.map g c) }) h id (.map Q) (.map E) (s.κ id) hH rfl rfl rfl (by simp)
      (fun k X b5=>b9 k (fun e=>b5 (by rw[hκ,e];rfl))) (.inr ⟨_,rfl,rfl,rfl⟩) (fun b hb=>.inl hb)
      (fun hl=>⟨r,g,c,hκ,b8,relAll.later hl _ _ b6,relAll.later hl _ _ b7,b2⟩)
     exact⟨_,_,a9,g1,g2,rfl,rfl⟩
    cases B:Y with
    |none=>rw[B]at p;cases p
    |some q =>
     rw[B]at p;obtain⟨o,ho,J⟩:=W d q M R B;cases q with
     |none =>
      simp only[updR,Z0]at p;subst p;have J:o=none:=J;subst J;refine Z (Q++[(k,x)]) (d.push { key:=l,val:=G,born:=n }) (n+1) ?_ ?_ ?_ (zxw b0)
      ·simp[Instr.mapUpdate,run_underlying K,MapKept.run_getObj_map f,a0,ho,MapKept.run_setObj_map _ f]
      ·simpa using z17 M (z0y X z15)
      ·simpa using z17 R (z0y hx z15)
     |some q =>
      obtain⟨i,v⟩:=q;simp only[updR,Z0]at p;subst p;obtain⟨e,a2,rfl,_⟩:=J;rw[Za]at ho;have y:d[i]?=some e:=by simpa using a2
      obtain⟨L,a4,a5⟩:=c0 i v B;have a8:rel s L e.key:=by
       obtain⟨u,b3,c1⟩:=z38 M i L a4;rw[Ze,a2,Zf,Z0]at b3;rw[b3];exact c1
      obtain⟨F,U⟩:=a5 _ a8;have a6:(Instr.keyThatStays e.key l).run P w=.ok l w:=by
       rw[<-F];simp[Instr.keyThatStays,U]
      refine Z (z9f Q i x) (d.modify i fun e=>{ e with key:=l,val:=G }) n ?_ ?_ ?_ (zoz b0)
      ·simp[Instr.mapUpdate,run_underlying K,MapKept.run_getObj_map f,a0,ho,y,a6,MapKept.run_setObj_map _ f]
      ·rw[z8h];have:(d.modify i fun e=>{ e with key:=l,val:=G }).toList.map (·.key)=d.toList.map (·.key):=MapKept.modify_keys i _ (fun e' a1=>by rw[y]at a1;cases a1;exact F);rw[this];exact M
      ·rw[ziw];have:(d.modify i fun e=>{ e with key:=l,val:=G }).toList.map (·.val)=(d.toList.map (·.val)).set i G:=by
        apply Zk;intro j;simp only[Ze,Zy,ZU,ZF,Zx,Zj]
        by_cases a3:i=j
        ·subst a3;have b4:i<d.size:=(ZO.1 y).1;simp[y,b4]
        ·simp[a3]
       rw[this];exact zmz R i hx
   split at A
   ·rename_i N;refine O _ A (fun d r M R B=>zel (w:=w) N.1 X B M R) (fun e=>zen (w:=w) N.1 N.2 X e) fun i v B=>?_;obtain⟨L,g1,g2⟩:=zp2 B;exact⟨L,g1,fun e he=>same_key N.1 g2 X he⟩
   ·split at A
    ·rename_i N;refine O _ A (fun d r M R B=>zp0 h N X B M R) (fun e=>zh1 N e) fun i v B=>?_;obtain⟨L,g1,g2⟩:=zlq B;refine⟨L,g1,fun e he=>?_⟩;obtain⟨q1,a,q2⟩:=(zj1 h N g2 X he).2 rfl;exact⟨q1,by rw[q2];simp[Instr.sameBits]⟩
    ·cases A
  ·cases A
 ·cases A

theorem zn9{s:RS}{w:World}(h:RH P s w)(t:TypeId) :
  ∃v a c,(Instr.makeMap t none).run P w=.ok v c/\Step s w a c/\RH P a c/\a.H=z0m s.H s.nx (some (.map []))/\a.nx=s.nx+1/\rel a (.mp s.nx) v:=by
 obtain⟨d,e⟩:=z7u h (Grew.alloc w (.map #[] 0)) (.map []) (.map (some w.heap.size)) (fun b f=>by simp only[blockOf,Z0]at f;omega)
  ⟨w.heap.size,#[],0,rfl,by simpa using heap_alloc_new w (.map #[] 0),by simp[relAll],by simp[relAll],stamp_nil⟩
 refine⟨.map (some w.heap.size),_,_,rfl,d,e,rfl,rfl,?_⟩;simp only[rel];refine⟨by simp[RS.add],⟨_,rfl⟩,fun g i _=>by simp[RS.add]⟩
theorem zt4{s:RS}{w:World}(h:RH P s w){t:TypeId}{d:D}{v:Value}{q:Obj}(a:zku P t d=some q)(f:rel s d v) :
  ∃u c e,(Instr.range t v).run P w=.ok u e/\Step s w c e/\RH P c e/\c.H=z0m s.H s.nx (some (.raw q))/\c.nx=s.nx+1/\rel c (.it s.nx) u:=by
 unfold zku at a;split at a
 ·rename_i x;split at a
  ·rename_i k;cases a;simp only[rel]at f;subst f
   obtain⟨g,i⟩:=z7u h (Grew.alloc w (.stringIter x 0)) (.raw (.stringIter x 0)) (.pointer (some ⟨w.heap.size,0,none⟩)) (fun b j=>by simp only[blockOf,Z0]at j;omega)
    ⟨w.heap.size,.inl rfl,by simpa using heap_alloc_new w (.stringIter x 0)⟩
   refine⟨_,_,_,run_range_string w t x (z93 k),g,i,rfl,rfl,?_⟩;simp only[rel];exact⟨by simp[RS.add],⟨_,rfl⟩,fun l m _=>by simp[RS.add]⟩
  ·cases a
 ·cases a
theorem zxy{s:RS}{w:World}(h:RH P s w){b:Bool}{ty:TypeId}{d e:D}{v:Value}{H:HM}{nx:Nat}(a:zv8 s.H s.nx b d=some (e,H,nx))(c:rel s d v) :
  ∃u g i,(Instr.next v b ty).run P w=.ok u i/\Step s w g i/\RH P g i/\g.H=H/\g.nx=nx/\rel g e u:=by
 unfold zv8 at a;split at a
 ·rename_i id;split at a
  ·rename_i x p j;simp only[rel]at c;obtain⟨z,⟨B,f⟩,c⟩:=c;have c:=c _ j rfl;obtain⟨_,r,hk,l⟩:=h.obj id _ j;have hk:s.κ id=.pointer (some ⟨r,0,none⟩):=by
    rcases hk with hk|hk
    ·exact hk
    ·rw[c,hk]at f;cases f
   rw[hk]at c;subst c;split at a
   ·rename_i n;simp only[Z0,Z3]at a;obtain⟨rfl,rfl,rfl⟩:=a
    obtain⟨o,q⟩:=z90 (w':=w.iterAt r x (p+(Utf8.decode x p).2)) h id _ (.raw (.stringIter x (p+(Utf8.decode x p).2))) (s.κ id) j rfl rfl rfl (by simp[World.iterAt])
     (fun k A m=>by
      simp only[World.iterAt];rw[Array.getElem?_setIfInBounds_ne]
      intro y;exact m (by rw[hk,<-y];rfl))
     (.inr ⟨_,rfl,rfl,rfl⟩) (fun b t=>.inl t) (fun _=>⟨r,.inl hk,Lib.iterAt_heap w r x p _ l⟩)
    refine⟨_,_,_,Lib.run_next_any_at w r x p ty l n,o,q,rfl,rfl,?_⟩;simp only[rel];exact⟨_,rfl,z0y (by simp[rel]) (z0y (by simp[rel]) (z0y (by simp[rel]) z15))⟩
   ·rename_i n;simp only[Z0,Z3]at a;obtain⟨rfl,rfl,rfl⟩:=a;refine⟨_,s,w,Lib.run_next_end_at w r x p ty l n,Step.refl s w,h,rfl,rfl,?_⟩;simp only[rel];exact⟨_,rfl,z0y (by simp[rel]) z15⟩
  ·cases a
 ·cases a
theorem zj2{t:TypeId}{k:IntKind}(h:intT P t=some k):P.underlying t=some (.int k):=by
 unfold intT at h;split at h
 ·cases h;assumption
 ·cases h
theorem zvl{t:TypeId}(h:u8T P t=true):∃e,P.underlying t=some (.slice e)/\P.underlying e=some (.int .u8):=by
 unfold u8T at h;split at h
 ·rename_i e a;split at h
  ·rename_i b;exact⟨e,z2t a,zj2 b⟩
  ·cases h
 ·cases h
theorem zlr{s:RS}:∀ {els:List D}{l:List UInt8}{vs:List Value},zkv els=some l->relAll s els vs->vs=l.map fun b=>.int .u8 b.toNat
 |[],l,vs,h,a=>by simp only[zkv,Z0]at h;subst h;simpa [relAll] using a
 |d::els,l,vs,h,a=>by
  simp only[relAll]at a;obtain⟨v,r,rfl,e,f⟩:=a;unfold zkv at h;split at h
  ·rename_i c;cases c
  ·rename_i n j c;cases c;split at h
   ·rename_i i;simp only[Z1]at h;obtain⟨k,g,rfl⟩:=h;rw[zlr g f,Zo];simp only[rel]at e;rw[e]
    congr 2
    have:n.toNat<256:=by omega
    simp[UInt8.toNat_ofNat',Y3 this];omega
   ·cases h
  ·cases h
theorem zdg {s:RS}{α:Type}{f:α->D}{g:α->Value}(h:∀x,rel s (f x) (g x)):∀(l:List α),relAll s (l.map f) (l.map g)
 |[]=>z15
 |x::l=>z0y (h x) (zdg h l)
theorem zt5{s:RS}{w:World}(h:RH P s w){k g:TypeId}{d e:D}{v:Value}(n:convS P k g d=some e)(K:rel s d v) :
  ∃u I O,(convert k g v).run P w=.ok u O/\Step s w I O/\RH P I O/\I.H=s.H/\I.nx=s.nx/\rel I e u:=by
 unfold convS at n;split at n
 ·rename_i x;split at n
  ·rename_i M;obtain⟨t,o,Y⟩:=M;cases n;obtain⟨f,p,r⟩:=zvl o;simp only[rel]at K;subst K;have hm:x.size<=maxLen:=by unfold maxLen;omega
   have F:=run_bytes_of_string w k g f x (z93 t) p r;have y:Grew w (w.drew.alloc (.cells (bytesRow x (grownCap w x.size 0 f)) f ((bytesRow x (grownCap w x.size 0 f)).size,(bytesRow x (grownCap w x.size 0 f)).size+1))):=Grew.of_drew (Grew.alloc _ _);obtain⟨U,W⟩:=zck h y;refine⟨_,_,_,F,U,W,rfl,rfl,?_⟩;have z:(zxf x).length=x.size:=by unfold zxf;rw[Zx];rfl
   simp only[rel];refine .inr ⟨⟨w.heap.size,0,none⟩,grownCap w x.size 0 f,x.data.toList.map fun b=>.int .u8 b.toNat,by rw[z],by rw[z];exact grownCap_ge w x.size 0 f,grownCap_le_maxLen w _ 0 f hm,?_,fun i u R=>?_⟩
   ·exact zdg (fun b=>by simp[rel]) _
   ·rw[Ze,Z1]at R;obtain⟨b,J,rfl⟩:=R;refine⟨rfl,fun j c A=>?_⟩;cases j with
    |succ j=>simp[Value.cells]at A
    |zero =>
     simp[Value.cells]at A;subst A;show (s.grow w _).m _=_;have Z:i<x.data.size:=by
      rcases Zr i x.data.size with h9|h9
      ·exact h9
      ·rw[Z7 (by simpa using h9)]at J;cases J
     simp only[RS.grow,z1i,ZL,Zw,Za];rw[if_neg (by simp)];have E:∀(C:Array Value) (q:Nat×Nat),(w.drew.alloc (.cells C f q)).cell? ⟨w.heap.size,i,none⟩=C[i]?:=fun C q=>by
      have:(w.drew.alloc (.cells C f q)).heap[w.heap.size]?=some (.cells C f q):=heap_alloc_new w.drew _;unfold World.cell?;simp only[this]
      rfl
     rw[E];unfold bytesRow;rw[Zi (by simpa using Z),ZZ];rw[Zy]at J;rw[J];rfl
  ·cases n
 ·rename_i nn L;split at n
  ·rename_i M;obtain⟨t,o⟩:=M;obtain⟨f,p,r⟩:=zvl t;simp only[Z1]at n;obtain⟨l,N,rfl⟩:=n;simp only[rel]at K;rcases K with ⟨_,rfl,rfl⟩|⟨a,cap,vs,rfl,h2,h3,Q,X⟩
   ·simp only[zkv,Z0]at N;subst N;refine⟨_,s,w,run_convert_bytes_nil (w:=w) k f p r 0 0 g (z93 o),Step.refl s w,h,rfl,rfl,?_⟩;simp only[rel];rfl
   ·have G:=zlr N Q;have B:L.length=l.length:=by rw[<-z0j Q,G,Zx]
    rw[B];refine⟨_,s,w,run_convert_bytes_back w k g f a cap l p r (z93 o) (fun j A=>?_),Step.refl s w,h,rfl,rfl,by simp only[rel]⟩;have:=X j (.int .u8 l[j].toNat) (by rw[G,Ze,Z9 A];rfl);have:=this.2 0 (.int .u8 l[j].toNat) rfl;simp only[ZL]at this;have:=(h.mem _ _ this).1;rw[<-this]
    congr 1
  ·cases n
 ·cases n
end Abs
end Go.Proofs.YtppebcifiejplaaGreatDoor
