import Derived.Test.YtppebcifiejplaaGreatDoorWG
/-
 Lemmas of the claim. No condition but those that each names.
-/
set_option linter.unusedSimpArgs false
set_option linter.unusedVariables false
set_option linter.unusedSectionVars false
open Nat renaming reduceBEq->Z0,reduceLeDiff->Z1,reduceAdd->Z2,reduceEqDiff->Z3,le_succ->Zh,reduceMul->Zj,reduceLT->Zl,le_refl->Zo,le_add_right->Zs
open Bool renaming and_eq_true->Z4,not_eq_true'->Zp
open List renaming mem_flatMap->Z5,mem_cons->Z6,append_nil->Z7,flatMap_cons->Z9,mem_map->Za,map_append->Zd,mem_singleton->Ze,length_append->Zf,mem_append->Zi,getElem?_eq_getElem->Zk,map_nil->Zm,mem_cons_of_mem->Zn,getElem?_map->Zq,flatMap_nil->Zr,getElem_mem->Zu,map_cons->Zv
open Int renaming reduceEq->Z8,natCast_add->Zb,natCast_one->Zc,natCast_zero->Zt
open Option renaming some.injEq->Zg
namespace Go.Proofs.YtppebcifiejplaaGreatDoor
open Abs in
@[go_sem]theorem elemT33:z3g Tryz.prog 33=some 31:=by kernel_rfl
section
open _root_.Go.Proofs.Tryz
section
open Abs Facts Tr
attribute [local irreducible] awp
set_option maxRecDepth 100000
section
variable {H:HM}{n tb:Nat}{v:V}{d:EIt}
def zId:List D:=[.int .i64 0,.int .i64 0,.int .i64 0]
def zl9(H:HM)(n:Nat)(u:T)(d:EIt):HM :=
 let a:=z0m (z0m H n (some (.box 27 (z08 u)))) (n+1) (some (.box 45 (z0w d)))
 let b:=z0m (z0m a (n+2) (some (.box 23 zId))) (n+2) (some (.box 23 (z0a (z1e u d.it.at_).1)))
 let c:=z0m (z0m b (n+3) (some (.box 27 zU))) (n+3) (some (.box 27 (z08 (z07 (z1e u d.it.at_).1 u).1)))
 z0m (z0m c (n+4) (some (.box 23 zId))) (n+4) (some (.box 23 (z0a (z3v u d.it).1.1)))
theorem ztq(u:T):Agree n H (zl9 H n u d):=fun j a=>by
 unfold zl9;rw[z03 _ (by omega),z03 _ (by omega),z03 _ (by omega),z03 _ (by omega),z03 _ (by omega),z03 _ (by omega),z03 _ (by omega),z03 _ (by omega)]
set_option maxHeartbeats 32000000 in
theorem det_step(P:standsT (treeV v)=true)(a4:tb<n)(hH:H tb=some (treeB (.ptr v.num 0)))(hu:Under n v)(a7:Stand H v)(hx:OkI d.it)(O:(doA (treeV v) d).2=0) :
  Det 9 [.ptr tb 0,z0o (treeV v),za4 d] H n (UpdOK (stE (treeV v) d) (stT (treeV v) d) (zly (treeV v) d) v H n):=by
 obtain⟨A,B,a6,hm,h1,b0⟩:=step_ok P O;obtain⟨L,a9,b2⟩:=z9w P;have Z:=z1f P;obtain⟨b,_⟩:=(zcd d.it).1 hx;have m1:1000<=maxLen:=by unfold maxLen;omega
 have X:=ztq (H:=H) (n:=n) (d:=d) (treeV v);have C:zl9 H n (treeV v) d tb=some (treeB (.ptr v.num 0)):=by rw[X _ a4];exact hH
 have E:Under (n+5) v:=hu.le (by omega);have l:Stand (zl9 H n (treeV v) d) v:=Stand.agree X v hu a7;have zwu:∀ {e:Int}{u':T}{m:List Idv}{r:D×HM×Nat},UpdOK e u' m v (zl9 H n (treeV v) d) (n+5) r->UpdOK e u' m v H n r:=fun {e u' m r} h=>by
  refine⟨by have:=h.le;omega,fun j hj=>by rw[h.agree j (by omega),X j hj],h.bad,fun h0=>?_⟩;obtain⟨v',t,p1,p2,p3,p4,p5,p6,p7,p8,p9⟩:=h.good h0;refine⟨v',t,p1,by omega,p3,p4,p5,p6,p7,fun a ha=>?_,by omega⟩;rcases p8 a ha with ⟨q1,q2,q3⟩|⟨q1,q2⟩
  ·exact .inl ⟨z61 hu a q2,q2,q3⟩
  ·exact .inr ⟨by omega,q2⟩
 have R:=pc_FindT (treeV v) L (by omega) d.it hx;have U:=z8q (treeV v) (z7o _ L) (by omega) (z1e (treeV v) d.it.at_).1;have N:=zlf (treeV v) L (by omega) (by omega) d.it (by have:=b.at_.1;omega) (fun s P=>by have:=b.at_.2 s P;omega) (by have:=b.to.1;omega) (fun s P=>by have:=b.to.2 s P;omega);unfold encDe at N;have nn:=zhz a4;have i:=zi7 hm
 by_cases k:d.it.kind=0
 ·obtain⟨r,g,c⟩:=zxm L (by omega) (by omega) Z (show tb<n+5 by omega) C E l (z39 d.act d.item d.it.unit) (zvq _ _ _ b.unit.1 1 0) (by rw[show cntT (z39 d.act d.item d.it.unit)=cntT d.it.unit from zep _ _ _ 1 0];have:=b.unit.2.1;omega) (by rw[show depT (z39 d.act d.item d.it.unit)=depT d.it.unit from zj8 _ _ _ 1 0];have:=b.unit.2.2;omega) (z3v (treeV v) d.it).1.1 (z3v (treeV v) d.it).1.2;have W:=pc_StampW d.act d.item d.it.unit b.unit.1 (by have:=b.unit.2.1;omega);have p:stE (treeV v) d=z4q (treeV v) (z3v (treeV v) d.it).1.1 (z3v (treeV v) d.it).1.2 (z39 d.act d.item d.it.unit):=by unfold stE;rw[if_pos k]
  have G:stT (treeV v) d=z10 (z3v (treeV v) d.it).1.1 (z4u (z3v (treeV v) d.it).1.2.toNat (z39 d.act d.item d.it.unit)) (treeV v):=by unfold stT;rw[if_pos k]
  have I:zly (treeV v) d=(z3v (treeV v) d.it).1.1::z3i (z3v (treeV v) d.it).1.1 (treeV v):=by unfold zly;rw[if_pos k]
  rw[p,G,I];rw[p]at A;refine⟨r,?_,zwu c⟩;obtain⟨w2,t2,u,_⟩:=c.good A;refine(zqzj [4000056,10000056] func9 rfl (by decide+kernel) rfl ?_)
  repeat'(first|refine nxt ?_|((first|refine zqh fun K f=>?_|refine zqe (by decide+kernel) fun K f=>?_|refine zqs (R) ?_|refine zqs (U) ?_|refine zqs (N) ?_|refine zqt (W) ?_);simp(disch:=omega)only[go_sem,Z0,Z3,↓reduceIte,reduceCtorEq,Z2,Z1,nn,k,z0a,z0z])|((refine zqm _ rfl (fun y=>?_) (fun y=>?_))<;>(first|(cases y;done)|((try omega))))|(refine f _ ?_;clear f K))
  refine z4p g rfl rfl rfl ⟨c.le,c.agree⟩ ?_;obtain⟨x,Hx,J⟩:=r;simp only at u;subst u;(try(simp(disch:=omega)only[go_sem,Z0]));repeat'(first|refine nxt ?_|refine zqU ?_|(refine f _ ?_;clear f K))
  (simp(disch:=omega)only[go_sem,Z0])
 by_cases o:d.it.kind=1
 ·skip
  obtain⟨r,g,c⟩:=zxn L (by omega) (by omega) Z (show tb<n+5 by omega) C E l (z1e (treeV v) d.it.at_).1;have p:stE (treeV v) d=zdd (treeV v) (z1e (treeV v) d.it.at_).1:=by unfold stE;rw[if_neg k,if_pos o]
  have G:stT (treeV v) d=z0q (z1e (treeV v) d.it.at_).1 (treeV v):=by unfold stT;rw[if_neg k,if_pos o]
  have I:zly (treeV v) d=z3i (z1e (treeV v) d.it.at_).1 (treeV v):=by unfold zly;rw[if_neg k,if_pos o]
  rw[p,G,I];rw[p]at A;refine⟨r,?_,zwu c⟩;obtain⟨w2,t2,u,_⟩:=c.good A;refine(zqzj [] func9 rfl (by decide+kernel) rfl ?_)
  repeat'(first|refine nxt ?_|((first|refine zqh fun K f=>?_|refine zqs (R) ?_|refine zqs (U) ?_|refine zqs (N) ?_);simp(disch:=omega)only[go_sem,Z0,↓reduceIte,reduceCtorEq,Z2,Z1,Z8,nn,o,z0a,z0z])|((refine zqm _ rfl (fun y=>?_) (fun y=>?_))<;>(first|(cases y;done)|((try omega))))|(refine f _ ?_;clear f K))
  refine z2i (g.mono fun r' H' n' ⟨B,e2,e3⟩=>?_);obtain⟨x,Hx,J⟩:=r;simp only at u;subst u;simp only at B e2 e3;subst B;subst e2;subst e3;(try(simp(disch:=omega)only[go_sem,Z0]));repeat'(first|refine nxt ?_|refine zqU ?_|(refine f _ ?_;clear f K))
  (simp(disch:=omega)only[go_sem,Z0])
 by_cases z:d.it.kind=6
 ·skip
  obtain⟨r,g,c⟩:=det_Move L (by omega) (by omega) Z (show tb<n+5 by omega) C E l (z1e (treeV v) d.it.at_).1 (z3v (treeV v) d.it).1.1 (z3v (treeV v) d.it).1.2;have p:stE (treeV v) d=z7r (treeV v) (z1e (treeV v) d.it.at_).1 (z3v (treeV v) d.it).1.1 (z3v (treeV v) d.it).1.2:=by unfold stE;rw[if_neg k,if_neg o,if_pos z]
  have G:stT (treeV v) d=z10 (z3v (treeV v) d.it).1.1 (z4u (z3v (treeV v) d.it).1.2.toNat (z07 (z1e (treeV v) d.it.at_).1 (treeV v)).1) (z0q (z1e (treeV v) d.it.at_).1 (treeV v)):=by unfold stT;rw[if_neg k,if_neg o,if_pos z]
  have I:zly (treeV v) d=z3i (z1e (treeV v) d.it.at_).1 (treeV v)++(z3v (treeV v) d.it).1.1::z3i (z3v (treeV v) d.it).1.1 (treeV v):=by unfold zly;rw[if_neg k,if_neg o,if_pos z]
  rw[p,G,I];rw[p]at A;refine⟨r,?_,zwu c⟩;obtain⟨w2,t2,u,_⟩:=c.good A;refine(zqzj [] func9 rfl (by decide+kernel) rfl ?_)
  repeat'(first|refine nxt ?_|((first|refine zqh fun K f=>?_|refine zqs (R) ?_|refine zqs (U) ?_|refine zqs (N) ?_);simp(disch:=omega)only[go_sem,Z0,↓reduceIte,reduceCtorEq,Z2,Z1,Z8,nn,z,z0a,z0z])|((refine zqm _ rfl (fun y=>?_) (fun y=>?_))<;>(first|(cases y;done)|((try omega))))|(refine f _ ?_;clear f K))
  refine z2i (g.mono fun r' H' n' ⟨B,e2,e3⟩=>?_);obtain⟨x,Hx,J⟩:=r;simp only at u;subst u;simp only at B e2 e3;subst B;subst e2;subst e3;(try(simp(disch:=omega)only[go_sem,Z0]));repeat'(first|refine nxt ?_|refine zqU ?_|(refine f _ ?_;clear f K))
  (simp(disch:=omega)only[go_sem,Z0])
 by_cases M:d.it.kind=5
 ·skip
  obtain⟨r,g,c⟩:=zt1 L (by omega) (by omega) Z (show tb<n+5 by omega) C E l (z1e (treeV v) d.it.at_).1 d.it.label (by have:=b.strs.1;omega);have p:stE (treeV v) d=znc (treeV v) (z1e (treeV v) d.it.at_).1 d.it.label:=by unfold stE;rw[if_neg k,if_neg o,if_neg z,if_pos M]
  have G:stT (treeV v) d=z10 (z1e (treeV v) d.it.at_).1 (fun q=>q.setLabel d.it.label) (treeV v):=by unfold stT;rw[if_neg k,if_neg o,if_neg z,if_pos M]
  have I:zly (treeV v) d=(z1e (treeV v) d.it.at_).1::z3i (z1e (treeV v) d.it.at_).1 (treeV v):=by unfold zly;rw[if_neg k,if_neg o,if_neg z]
  rw[p,G,I];rw[p]at A;refine⟨r,?_,zwu c⟩;obtain⟨w2,t2,u,_⟩:=c.good A;refine(zqzj [] func9 rfl (by decide+kernel) rfl ?_)
  repeat'(first|refine nxt ?_|((first|refine zqh fun K f=>?_|refine zqs (R) ?_|refine zqs (U) ?_|refine zqs (N) ?_);simp(disch:=omega)only[go_sem,Z0,↓reduceIte,reduceCtorEq,Z2,Z1,Z8,nn,M,z0a,z0z])|((refine zqm _ rfl (fun y=>?_) (fun y=>?_))<;>(first|(cases y;done)|((try omega))))|(refine f _ ?_;clear f K))
  refine z2i (g.mono fun r' H' n' ⟨B,e2,e3⟩=>?_);obtain⟨x,Hx,J⟩:=r;simp only at u;subst u;simp only at B e2 e3;subst B;subst e2;subst e3;(try(simp(disch:=omega)only[go_sem,Z0]));repeat'(first|refine nxt ?_|refine zqU ?_|(refine f _ ?_;clear f K))
  (simp(disch:=omega)only[go_sem,Z0])
 by_cases Q:d.it.kind=4
 ·skip
  have W:=zo9 d.it.new (by have:=b.new.1;omega) d.act d.item 0 (by omega);obtain⟨r,g,c⟩:=zl3 L (by omega) (by omega) Z (show tb<n+5 by omega) C E l (z1e (treeV v) d.it.at_).1 (z1v d.it.new d.act d.item 0) (by rw[z2f];have:=b.new.1;omega) (fun w hw=>by have:=b.new.2 _ (zbt hw);omega);have p:stE (treeV v) d=z4o (treeV v) (z1e (treeV v) d.it.at_).1 (z1v d.it.new d.act d.item 0):=by unfold stE;rw[if_neg k,if_neg o,if_neg z,if_neg M,if_pos Q]
  have G:stT (treeV v) d=z10 (z1e (treeV v) d.it.at_).1 (fun q=>q.setHead (z1v d.it.new d.act d.item 0)) (treeV v):=by unfold stT;rw[if_neg k,if_neg o,if_neg z,if_neg M,if_pos Q]
  have I:zly (treeV v) d=(z1e (treeV v) d.it.at_).1::z3i (z1e (treeV v) d.it.at_).1 (treeV v):=by unfold zly;rw[if_neg k,if_neg o,if_neg z]
  rw[p,G,I];rw[p]at A;refine⟨r,?_,zwu c⟩;obtain⟨w2,t2,u,_⟩:=c.good A;refine(zqzj [4000097,10000097] func9 rfl (by decide+kernel) rfl ?_)
  repeat'(first|refine nxt ?_|((first|refine zqh fun K f=>?_|refine zqe (by decide+kernel) fun K f=>?_|refine zqs (R) ?_|refine zqs (U) ?_|refine zqs (N) ?_|refine zqt (W) ?_);simp(disch:=omega)only[go_sem,Z0,Z3,↓reduceIte,reduceCtorEq,Z2,Z1,Z8,nn,Q,z0a,z0z])|((refine zqm _ rfl (fun y=>?_) (fun y=>?_))<;>(first|(cases y;done)|((try omega))))|(refine f _ ?_;clear f K))
  refine z4p g rfl rfl rfl ⟨c.le,c.agree⟩ ?_;obtain⟨x,Hx,J⟩:=r;simp only at u;subst u;(try(simp(disch:=omega)only[go_sem,Z0]));repeat'(first|refine nxt ?_|refine zqU ?_|(refine f _ ?_;clear f K))
  (simp(disch:=omega)only[go_sem,Z0])
 have a5:(z1e (treeV v) d.it.at_).1∈idsT (treeV v):=zew (e:=(z1e (treeV v) d.it.at_).2) rfl h1;have Y:d.it.kind=2 \/ d.it.kind=3:=by omega
 have a2:(z07 (z1e (treeV v) d.it.at_).1 (treeV v)).1.words.length<=256:=by
  have ha:=(z8y (zc9 _ ((z18 _).1 P).1 _ (z4r (zea a5)))).1;unfold z3l at ha;simp only[Z4]at ha;exact(zny ha.2.2.2.1).1
 have a1:editE (z07 (z1e (treeV v) d.it.at_).1 (treeV v)).1.words d.it d.act d.item=0:=by
  unfold doA at O;rw[if_neg (by omega),if_neg (by rw[decide_eq_true a6,hm];decide),if_neg (by simpa using h1)]at O
  by_cases a3:(z1e (treeV v) d.it.at_).1=(treeV v).id
  ·rw[if_pos a3]at O;cases O
  rw[if_neg a3,if_neg o,if_pos Y]at O
  by_cases he:editE (z07 (z1e (treeV v) d.it.at_).1 (treeV v)).1.words d.it d.act d.item=0
  ·exact he
  ·rw[if_neg he]at O;exact O
 have a8:z4o (treeV v) (z1e (treeV v) d.it.at_).1 (z60 (z07 (z1e (treeV v) d.it.at_).1 (treeV v)).1.words d.it d.act d.item)=0:=by
  have:=A;unfold stE at this;rwa [if_neg k,if_neg o,if_neg z,if_neg M,if_neg Q]at this
 have a0:=zd0 a8;have F:∀w∈z60 (z07 (z1e (treeV v) d.it.at_).1 (treeV v)).1.words d.it d.act d.item,w.text.size<=maxLen:=fun w hw=>by
  have h3:=List.any_eq_false.1 a0.2.2.1 w hw;simp only[Bool.not_eq_true,Bool.not_eq_false']at h3;unfold z5t at h3;simp only[Z4,decide_eq_true_eq]at h3;unfold maxLen;omega
 unfold z5u at i;rw[if_neg k]at i
 by_cases k2:d.it.kind=2
 ·rw[if_pos k2]at i;simp only[Z4,inB,decide_eq_true_eq]at i;have W:=pc_Word2 (w:=(z07 (z1e (treeV v) d.it.at_).1 (treeV v)).1.words) (x:=d.it) (a:=d.act) (j:=d.item) ⟨a2,b.old.1,b.new.1,i.2.2.1,i.2.2.2,a1⟩ k2 i.1.2;obtain⟨r,g,c⟩:=zgx L (by omega) (by omega) Z (show tb<n+5 by omega) C E l (z1e (treeV v) d.it.at_).1 (z60 (z07 (z1e (treeV v) d.it.at_).1 (treeV v)).1.words d.it d.act d.item) (by have:=a0.2.2.2.2;omega) F;have p:stE (treeV v) d=z4o (treeV v) (z1e (treeV v) d.it.at_).1 (z60 (z07 (z1e (treeV v) d.it.at_).1 (treeV v)).1.words d.it d.act d.item):=by unfold stE;rw[if_neg k,if_neg o,if_neg z,if_neg M,if_neg Q]
  have G:stT (treeV v) d=z10 (z1e (treeV v) d.it.at_).1 (fun q=>q.setWords (z60 (z07 (z1e (treeV v) d.it.at_).1 (treeV v)).1.words d.it d.act d.item)) (treeV v):=by unfold stT;rw[if_neg k,if_neg o,if_neg z,if_neg M,if_neg Q]
  have I:zly (treeV v) d=(z1e (treeV v) d.it.at_).1::z3i (z1e (treeV v) d.it.at_).1 (treeV v):=by unfold zly;rw[if_neg k,if_neg o,if_neg z]
  rw[p,G,I];rw[p]at A;refine⟨r,?_,zwu c⟩;obtain⟨w2,t2,u,_⟩:=c.good A;refine(zqzj [] func9 rfl (by decide+kernel) rfl ?_)
  repeat'(first|refine nxt ?_|((first|refine zqh fun K f=>?_|refine zqs (R) ?_|refine zqs (U) ?_|refine zqs (N) ?_|refine zqs (W) ?_);simp(disch:=omega)only[go_sem,Z0,↓reduceIte,reduceCtorEq,Z2,Z1,Z8,nn,k2,z0a,z0z])|((refine zqm _ rfl (fun y=>?_) (fun y=>?_))<;>(first|(cases y;done)|((try omega))))|(refine f _ ?_;clear f K))
  refine z2i (g.mono fun r' H' n' ⟨B,e2,e3⟩=>?_);obtain⟨x,Hx,J⟩:=r;simp only at u;subst u;simp only at B e2 e3;subst B;subst e2;subst e3;(try(simp(disch:=omega)only[go_sem,Z0]));repeat'(first|refine nxt ?_|refine zqU ?_|(refine f _ ?_;clear f K))
  (simp(disch:=omega)only[go_sem,Z0])
 ·rw[if_neg k2,if_pos (Y.resolve_left k2)]at i;simp only[Z4,Bool.or_eq_true,inB,decide_eq_true_eq]at i;have k3:=Y.resolve_left k2;have W:=pc_Word3 (w:=(z07 (z1e (treeV v) d.it.at_).1 (treeV v)).1.words) (x:=d.it) (a:=d.act) (j:=d.item) ⟨a2,b.old.1,b.new.1,i.2.2.1.1,i.2.2.1.2,a1⟩ k3 (by have:=i.2.1.2;omega) (fun h=>i.2.2.2.resolve_left (by omega));obtain⟨r,g,c⟩:=zgx L (by omega) (by omega) Z (show tb<n+5 by omega) C E l (z1e (treeV v) d.it.at_).1 (z60 (z07 (z1e (treeV v) d.it.at_).1 (treeV v)).1.words d.it d.act d.item) (by have:=a0.2.2.2.2;omega) F;have p:stE (treeV v) d=z4o (treeV v) (z1e (treeV v) d.it.at_).1 (z60 (z07 (z1e (treeV v) d.it.at_).1 (treeV v)).1.words d.it d.act d.item):=by unfold stE;rw[if_neg k,if_neg o,if_neg z,if_neg M,if_neg Q]
  have G:stT (treeV v) d=z10 (z1e (treeV v) d.it.at_).1 (fun q=>q.setWords (z60 (z07 (z1e (treeV v) d.it.at_).1 (treeV v)).1.words d.it d.act d.item)) (treeV v):=by unfold stT;rw[if_neg k,if_neg o,if_neg z,if_neg M,if_neg Q]
  have I:zly (treeV v) d=(z1e (treeV v) d.it.at_).1::z3i (z1e (treeV v) d.it.at_).1 (treeV v):=by unfold zly;rw[if_neg k,if_neg o,if_neg z]
  rw[p,G,I];rw[p]at A;refine⟨r,?_,zwu c⟩;obtain⟨w2,t2,u,_⟩:=c.good A;refine(zqzj [] func9 rfl (by decide+kernel) rfl ?_)
  repeat'(first|refine nxt ?_|((first|refine zqh fun K f=>?_|refine zqs (R) ?_|refine zqs (U) ?_|refine zqs (N) ?_|refine zqs (W) ?_);simp(disch:=omega)only[go_sem,Z0,↓reduceIte,reduceCtorEq,Z2,Z1,Z8,nn,k3,z0a,z0z])|((refine zqm _ rfl (fun y=>?_) (fun y=>?_))<;>(first|(cases y;done)|((try omega))))|(refine f _ ?_;clear f K))
  refine z2i (g.mono fun r' H' n' ⟨B,e2,e3⟩=>?_);obtain⟨x,Hx,J⟩:=r;simp only at u;subst u;simp only at B e2 e3;subst B;subst e2;subst e3;(try(simp(disch:=omega)only[go_sem,Z0]));repeat'(first|refine nxt ?_|refine zqU ?_|(refine f _ ?_;clear f K))
  (simp(disch:=omega)only[go_sem,Z0])
end
end
section
open Abs Facts Tr
theorem zp6{H:HM}:∀v:V,Stand H v->∀j∈objsV v,(∃a,H j=some (.box 117 a)) \/ ∃n a,H j=some (.row 70 n a):=by
 refine zgg fun v f e j hj=>?_;obtain⟨g,b,h⟩:=(z34 H v).1 e;rw[z9b,Z6,Zi]at hj;rcases hj with rfl|hj|hj
 ·exact .inl ⟨_,g⟩
 ·unfold zns at b;cases d:v.row with
  |none=>rw[d]at hj;cases hj
  |some r =>
   rw[d]at hj b;simp only[Option.toList_some,Ze]at hj;subst hj;exact .inr ⟨_,_,b⟩
 ·obtain⟨k,c,hj⟩:=Z5.1 hj;exact f k c (h k c) j hj
structure VerOK (H:HM) (n t:Nat) (v:V):Prop where
 lt:t<n
 at_:H t=some (treeB (.ptr v.num 0))
 st:Stand H v
 un:Under n v
 ok:standsT (treeV v)=true
section
variable {H H':HM}{n n' t:Nat}{v:V}
theorem VerOK.keep(h:VerOK H n t v)(a:Agree n H H')(b:n<=n'):VerOK H' n' t v :=
 ⟨by have:=h.lt;omega,(a _ h.lt).trans h.at_,Stand.agree a v h.un h.st,h.un.le b,h.ok⟩
theorem VerOK.but(h:VerOK H n t v){k e m:Nat}{cs:List D}(b:H k=some (.box e cs)/\e≠117/\e≠73 \/ H k=some (.row e m cs)/\e≠70)(o:∀j,j≠k->j<n->H' j=H j)(p:n<=n'):VerOK H' n' t v:=by
 have i:∀j∈objsV v,j≠k:=fun j d g=>by
  subst g;rcases zp6 _ h.st j d with ⟨f,a⟩|⟨q,f,a⟩
  ·rcases b with ⟨b,c,_⟩|⟨b,_⟩
   ·rw[b]at a;simp only[Zg,HObj.box.injEq]at a;exact c a.1
   ·rw[b]at a;cases a
  ·rcases b with ⟨b,_⟩|⟨b,c⟩
   ·rw[b]at a;cases a
   ·rw[b]at a;simp only[Zg,HObj.row.injEq]at a;exact c a.1
 have l:t≠k:=fun g=>by
  have a:=h.at_;subst g;rcases b with ⟨b,_,c⟩|⟨b,_⟩
  ·rw[b]at a;unfold treeB at a;simp only[Zg,HObj.box.injEq]at a;exact c a.1
  ·rw[b]at a;cases a
 exact⟨by have:=h.lt;omega,(o _ l h.lt).trans h.at_,Stand.on v (fun j d=>o j (i j d) (h.un j d)) h.st,h.un.le p,h.ok⟩
theorem ver_new{u:T}{o:D×HM×Nat}(e:NewOK u H n o)(a:standsT u=true):∃v t,o.1=.ptr t 0/\VerOK o.2.1 o.2.2 t v/\treeV v=u:=by
 obtain⟨v,t,g,-,h,f,c,d,b,-,-⟩:=e.good a;exact⟨v,t,g,⟨h,f,c,d,by rw[b];exact a⟩,b⟩
theorem ver_step{d:EIt}{r:D×HM×Nat}(l:0<=d.it.kind/\d.it.kind<=6)(k:UpdOK (stE (treeV v) d) (stT (treeV v) d) (zly (treeV v) d) v H n r)(i:stE (treeV v) d=0) :
  ∃a c,r.1=.tup [.ptr c 0,.int .i64 0]/\VerOK r.2.1 r.2.2 c a/\treeV a=stT (treeV v) d/\Upd n (zly (treeV v) d) v a/\n<=a.num:=by
 obtain⟨a,c,m,-,o,j,f,g,b,h,e⟩:=k.good i;exact⟨a,c,m,⟨o,j,f,g,by rw[b];exact zdz i l⟩,b,h,e⟩
theorem VerOK.sz(h:VerOK H n t v):szB (treeV v)=true/\cntT (treeV v)<=1024/\depT (treeV v)<=8:=z9w h.ok
theorem VerOK.unit(h:VerOK H n t v):RC prog 11 [.ptr t 0] H n (z0o (treeV v)):=znq h.sz.1 h.lt h.at_ h.un h.st
theorem VerOK.new(h:VerOK H n t v){b:Nat}{w:V}(a:VerOK H n b w):RC prog 13 [.ptr t 0,.ptr b 0] H n (.int .i64 (newV v w)) :=
 zur h.sz.1 (by have:=h.sz;omega) h.lt h.at_ h.un h.st a.sz.1 a.lt a.at_ a.un a.st
end
theorem sub_len{α:Type}[BEq α][LawfulBEq α]:∀(l m:List α),l.Nodup->(∀x∈l,x∈m)->l.length<=m.length
 |[],_,_,_=>Nat.zero_le _
 |a::l,m,b,d=>by
  rw[List.nodup_cons]at b;have c:=d a (by simp);have g:=sub_len l (m.erase a) b.2 fun x f=>(List.mem_erase_of_ne (fun(e:x=a)=>b.1 (e ▸ f))).2 (d x (Zn _ f));have h:=List.length_erase_of_mem c;have i:0<m.length:=List.length_pos_of_mem c;simp only[List.length_cons];omega
theorem share_le{n:Nat}{a L:List Idv}{v v':V}(h:Upd n a v v')(l:(idsT (treeV v')).Nodup)(k:∀i∈idsT (treeV v'),i∈idsT (treeV v) \/ i∈L):newV v' v<=a.length+L.length:=by
 have d:((nodesV v').map fun w=>w.own.id).Nodup:=by rw[<-z81];exact l
 unfold newV;rw[List.countP_eq_length_filter,<-Zf,<-List.length_map (f:=fun w:V=>w.own.id)];refine sub_len _ _ (d.sublist (List.Sublist.map _ List.filter_sublist)) fun x m=>?_;obtain⟨w,e,rfl⟩:=Za.1 m;rw[List.mem_filter]at e;obtain⟨b,c⟩:=e;simp only[Zp,decide_eq_false_iff_not]at c;rcases h w b with ⟨_,j,_⟩|⟨_,g|g⟩
 ·exact absurd (Za.2 ⟨w,j,rfl⟩) c
 ·exact List.mem_append_left _ g
 ·refine List.mem_append_right _ ?_;have:w.own.id∈idsT (treeV v'):=by rw[z81];exact Za.2 ⟨w,b,rfl⟩
  exact(k _ this).resolve_left g
theorem share_ge{n:Nat}{v v':V}(a:Under n v)(c:n<=v'.num):1<=newV v' v:=by
 unfold newV;refine List.countP_pos_iff.2 ⟨v',by rw[z41];exact List.mem_cons_self,?_⟩;simp only[Zp,decide_eq_false_iff_not];intro h;obtain⟨w,b,e⟩:=Za.1 h;have:=z61 a w b;omega
namespace Tr
theorem ids_ins(p:Idv)(n:Nat)(x:T):∀u:T,∀i∈idsT (z10 p (z4u n x) u),i∈idsT u \/ i∈idsT x:=by
 refine z4a fun u d i hi=>?_;rw[z6h]at hi;split at hi
 ·unfold z4u at hi;rw[z29,Z6]at hi;rw[z1c u,Z6];rcases hi with rfl|hi
  ·exact .inl (.inl rfl)
  ·obtain⟨k,hk,a⟩:=Z5.1 hi;rcases Zi.1 hk with hk|hk
   ·exact .inl (.inr (Z5.2 ⟨k,List.mem_of_mem_take hk,a⟩))
   ·rcases Z6.1 hk with rfl|hk
    ·exact .inr a
    ·exact .inl (.inr (Z5.2 ⟨k,List.mem_of_mem_drop hk,a⟩))
 ·rw[z29,Z6]at hi;rw[z1c u,Z6];rcases hi with rfl|hi
  ·exact .inl (.inl rfl)
  ·obtain⟨k,hk,a⟩:=Z5.1 hi;obtain⟨c,b,rfl⟩:=Za.1 hk;rcases d c b i a with h|h
   ·exact .inl (.inr (Z5.2 ⟨c,b,h⟩))
   ·exact .inr h
theorem ids_find{id:Idv}{u:T}(h:id∈idsT u):∀i∈idsT (z07 id u).1,i∈idsT u:=fun i a=>by
 obtain⟨C,e,_⟩:=focus id u h
 generalize (z07 id u).1=q at a e;rw[e];exact z80 C a
theorem znb{id:Idv}{f:T->T}(c:∀q:T,(f q).id=q.id/\(f q).kids=q.kids):∀u:T,idsT (z10 id f u)=idsT u:=by
 refine z4a fun u a=>?_;rw[z6h];split
 ·rw[z1c,z1c u,(c u).1,(c u).2]
 ·rw[z29,z1c u,List.flatMap_map]
  congr 1
  generalize u.kids=l at a
  induction l with
  |nil=>rfl
  |cons k l b=>rw[Z9,Z9,a k (by simp),b fun k d=>a k (Zn _ d)]
theorem step_ids{u:T}{d:EIt}(w:0<=d.it.kind/\d.it.kind<=6)(h:stE u d=0):∀i∈idsT (stT u d),i∈idsT u \/ i∈(if d.it.kind=0 then idsT (z39 d.act d.item d.it.unit) else []):=by
 intro i hi;unfold stE at h;unfold stT at hi
 by_cases a:d.it.kind=0
 ·rw[if_pos a]at h hi⊢;exact ids_ins _ _ _ _ i hi
 rw[if_neg a]at h hi⊢;refine .inl ?_
 by_cases b:d.it.kind=1
 ·rw[if_pos b]at h hi;exact zdb _ _ i hi
 rw[if_neg b]at h hi
 by_cases g:d.it.kind=6
 ·rw[if_pos g]at h hi;obtain⟨m,k⟩:=Int.eq_ofNat_of_zero_le (move_nn h);rw[k]at h;obtain⟨l,j,o,p,r,s⟩:=zca h;rcases ids_ins _ _ _ _ i hi with hi|hi
  ·exact zdb _ _ i hi
  ·exact ids_find j i hi
 rw[if_neg g]at h hi
 by_cases e:d.it.kind=5
 ·rw[if_pos e,znb (f:=fun q=>q.setLabel d.it.label) (fun q=>⟨rfl,rfl⟩)]at hi;exact hi
 rw[if_neg e]at h hi
 by_cases c:d.it.kind=4
 ·rw[if_pos c,znb (f:=fun q=>q.setHead (z1v d.it.new d.act d.item 0)) (fun q=>⟨rfl,rfl⟩)]at hi;exact hi
 rw[if_neg c,znb (f:=fun q=>q.setWords (z60 (z07 (z1e u d.it.at_).1 u).1.words d.it d.act d.item)) (fun q=>⟨rfl,rfl⟩)]at hi;exact hi
theorem step_new{n:Nat}{v a:V}{d:EIt}(k:standsT (treeV v)=true)(i:0<=d.it.kind/\d.it.kind<=6)(h:stE (treeV v) d=0)(l:Under n v)(c:n<=a.num)(j:treeV a=stT (treeV v) d)(e:Upd n (zly (treeV v) d) v a) :
  1<=newV a v/\newV a v<=18+(if d.it.kind=0 then cntT d.it.unit else 0):=by
 refine⟨share_ge l c,?_⟩;have b:=share_le e (by rw[j];exact z1f (zdz h i)) (by rw[j];exact step_ids i h);have g:=step_made (d:=d) (z9w k).2.2
 by_cases f:d.it.kind=0
 ·rw[if_pos f,z3q,show cntT (z39 d.act d.item d.it.unit)=cntT d.it.unit from zep _ _ _ 1 0]at b;rw[if_pos f];split at g<;>omega
 ·rw[if_neg f]at b⊢;rw[List.length_nil]at b;split at g<;>omega
end Tr
end
end
namespace Abs
open Go.RowKit Go.Lib
variable {P:Program}
def anyA(P:Program)(own:List Nat)(b:Array Oper)(K:St->Prop):Nat->Array Bool->St->Prop
 |0,a,c=>Region.ready .any b a=[]/\K c
 |fuel+1,a,c=>(Region.ready .any b a=[]->K c)/\∀i∈Region.ready .any b a,∃o,b[i]?=some o/\z2y P own (zrl b) [o] (anyA P own b K fuel (a.setIfInBounds i true)) c
theorem zxo{N:Nat}{own:List Nat}{e:Array Oper}{K:St->Prop}{Q:Exit->Act->World->Prop}(g:∀(i:Nat) o,e[i]?=some o->z6o N o=true) :
  ∀(fuel:Nat) (listed:Array Bool) (st:St) (s:RS) (a:Act) (w:World),anyA P own e K fuel listed st->Fr P N st s a w ->
  (∀c m l k,K c->Fr P N c m l k->Step s w m k->Q .normal l k)->wpAny P .any e Q fuel listed a w:=by
 intro fuel
 induction fuel with
 |zero =>
  intro listed st s a w h d j;exact⟨h.1,j st s a w h.2 d (Step.refl s w)⟩
 |succ fuel y =>
  intro listed st s a w h d j;refine⟨fun C=>j st s a w (h.1 C) d (Step.refl s w),fun i B=>?_⟩;obtain⟨o,x,b⟩:=h.2 i B;have f:=g i o x;unfold wpOp;rw[x];simp only;simp only[z2y]at b;rw[zc2]at b;split at b
  ·rename_i r;rw[if_pos (z3n d r)];exact .inl (zc1 d f b fun c m l k A p t=>y _ c m l k A p fun v E z F n q u=>j v E z F n q (t.trans u))
  ·rename_i r;rw[if_neg (by rw[z3n d r];simp)];exact y _ _ s _ w b (d.put0 f zc0) j
  ·cases b
theorem sem_any{N id:Nat}{own:List Nat}{b:Array Oper}{Q:Exit->St->Prop}{st:St}(r:P.follows .mixedOrders=true)(e:∀o∈b.toList,z6o N o=true)(h:anyA P own b (Q .normal) b.size (Array.replicate b.size false) st):Sem P N (.region id b true) Q st:=by
 intro x z s a w d u;obtain⟨g,f⟩:=zkw (w':={ w with drawn:=w.drawn+1 }) d.heap rfl rfl rfl rfl;have j:Fr P N st s a { w with drawn:=w.drawn+1 }:=⟨d.H,d.nx,d.size,d.defers,d.tmps,f⟩
 have c:∀(i:Nat) o,b[i]?=some o->z6o N o=true:=fun i o t=>e o (by
  obtain⟨n,p⟩:=(Array.getElem?_eq_some_iff.1 t)
  rw[<-p];exact(Array.mem_toList_iff.2 (Array.getElem_mem n)))
 exact wp_region_any r (zxo (Q:=zwu P N x z Q) c b.size _ st s a _ h j fun m v A y q k l=>⟨m,v,q,k,u.trans (g.trans l)⟩)
def zsx(p:Nat->Prop):List Nat->Prop
 |[]=>True
 |i::l=>p i/\zsx p l
theorem zve{p:Nat->Prop}:∀ {l:List Nat},zsx p l->∀i∈l,p i
 |[],_,i,hi=>by cases hi
 |j::l,h,i,hi=>by
  rcases Z6.1 hi with rfl|hi
  ·exact h.1
  ·exact zve h.2 i hi
def zsy:List Oper->Nat->(Oper->Prop)->Prop
 |[],_,_=>False
 |o::_,0,p=>p o
 |_::l,i+1,p=>zsy l i p
theorem zvf{p:Oper->Prop}:∀(l:List Oper) (i:Nat),zsy l i p->∃o,l[i]?=some o/\p o
 |[],_,h=>h.elim
 |o::_,0,h=>⟨o,rfl,h⟩
 |_::l,i+1,h=>by
  obtain⟨o,a,b⟩:=zvf l i h;exact⟨o,by simpa using a,b⟩
theorem z3y{own:List Nat}{os:List Oper}{K:St->Prop}{fuel:Nat}{listed:Array Bool}{st:St}{i:Nat}{l:List Nat}(b:Region.ready .any os.toArray listed=i::l)
  (h:zsx (fun i=>zsy os i fun o=>z2y P own (zrl os.toArray) [o] (anyA P own os.toArray K fuel (listed.setIfInBounds i true)) st) (i::l)):anyA P own os.toArray K (fuel+1) listed st :=
 ⟨(fun a=>by rw[b]at a;cases a),fun j e=>by
  obtain⟨o,c,d⟩:=zvf _ _ (zve h j (by rw[<-b];exact e))
  exact⟨o,by simpa using c,d⟩⟩
theorem anyA_end{own:List Nat}{a:Array Oper}{K:St->Prop}{listed:Array Bool}{st:St}(b:Region.ready .any a listed=[])(h:K st):anyA P own a K 0 listed st:=⟨b,h⟩
theorem Sem.join{N:Nat}{x y:Code}{Q:Exit->St->Prop}{st:St}(I:St->Prop)(h2:Sem P N x (zo8 I Q) st)(h1:∀st,I st->Sem P N y Q st):Sem P N (.seq x y) Q st:=by
 intro s0 w0 s a w hf hs;refine wp_seq (wp_mono (h2 s0 w0 s a w hf hs) ?_);rintro e a' w' ⟨st',s',hq,hf',hs'⟩;cases e with
 |normal=>exact h1 st' hq s0 w0 s' a' w' hf' hs'
 |exit id=>exact⟨st',s',hq,hf',hs'⟩
 |goto l=>exact⟨st',s',hq,hf',hs'⟩
 |ret=>exact⟨st',s',hq,hf',hs'⟩
 |panic ch=>exact⟨st',s',hq,hf',hs'⟩
 |outgrown=>exact⟨st',s',hq,hf',hs'⟩
end Abs
section
open _root_.Go.Proofs.Tryz
section
open Abs Facts Tr
attribute [local irreducible] awp
set_option maxRecDepth 100000
theorem VerOK.buts{H l:HM}{n q t:Nat}{v:V}(h:VerOK H n t v)(B:Nat->Prop)(o:∀k,B k->(∃a,H k=some (.box 27 a)) \/ (∃m a,H k=some (.row 31 m a)) \/ ∃m a,H k=some (.row 27 m a))(p:∀j,¬B j->j<n->l j=H j)(r:n<=q):VerOK l q t v:=by
 have g:∀j∈objsV v,¬B j:=fun j d e=>by
  rcases zp6 _ h.st j d with ⟨f,b⟩|⟨s,f,b⟩<;>rcases o j e with ⟨a,c⟩|⟨m,a,c⟩|⟨m,a,c⟩<;>rw[c]at b<;>cases b
 have i:¬B t:=fun e=>by
  have b:=h.at_;unfold treeB at b;rcases o t e with ⟨a,c⟩|⟨m,a,c⟩|⟨m,a,c⟩<;>rw[c]at b<;>cases b
 exact⟨by have:=h.lt;omega,(p _ i h.lt).trans h.at_,Stand.on v (fun j d=>p j (g j d) (h.un j d)) h.st,h.un.le r,h.ok⟩
def bks(a:List (Nat×V)):List D:=a.flatMap fun p=>z08 (treeV p.2)
theorem bks_len(a:List (Nat×V)):(bks a).length=a.length*8:=by unfold bks;exact z6l (f:=fun p:Nat×V=>z08 (treeV p.2)) (sz:=8) (fun _=>z0h _) a
theorem zwj(a:List (Nat×V))(t:Nat)(v:V):bks (a++[(t,v)])=bks a++z08 (treeV v):=by
 unfold bks;simp only[List.flatMap_append,Z9,Zr,Z7]
def G6(l:List EIt)(u:T)(st:St):Prop:=st.t 1=z63 l/\st.t 2=.ptr 0 0/\∃a b t v,st.t 5=.ptr t 0/\st.t 6=.osl a 1/\st.t 7=.osl b 1/\st.H a=some (.row 31 1 [.ptr t 0])/\st.H b=some (.row 27 1 (z08 u)) /\
 st.H 0=some (.box 27 (z08 u))/\VerOK st.H st.nx t v/\treeV v=u/\a<st.nx/\b<st.nx/\0<a/\0<b
set_option maxHeartbeats 16000000 in
theorem znx(u:T)(d5:fitB u=true)(l:List EIt)(hl:l.length<=maxLen)(hr:∀d∈l,RdI d.it):PC prog 3 [z0o u,z63 l] (.bool true):=by
 have s:=zy3 u d5 16 (by decide) (by decide);have x:=pc_rowTop l hl hr 6 (by decide) (by decide);refine z14 1 (by simp only[pureD.pureL,z02,zjt,Bool.and_self]) rfl ?_;refine z8f func3 rfl (by decide+kernel) (by simp[ntmps3]) ?_;refine Sem.seq (Sem.walk (own:=[]) z5x (by decide+kernel) ?_)
 repeat'(first|((refine zqr fun K c=>?_);simp(disch:=omega)only[go_sem])|(refine c _ ?_;clear c K))
 refine Sem.seq (Sem.walk (own:=[]) z5x (by decide+kernel) ?_);cases M:bookB u 16
 ·rw[M]at s
  repeat'(first|((first|refine zqh fun K c=>?_|refine zqs (s) ?_);simp(disch:=omega)only[go_sem,Z0,↓reduceIte,Z2,Z1])|((refine zqm _ rfl (fun m=>?_) (fun m=>?_))<;>(first|(cases m;done)|((try omega))))|refine nxt ?_|refine zqU ?_|(refine c _ ?_;clear c K))
  exact z01 rfl
 rw[M]at s;cases b6:rowI l 6
 ·rw[b6]at x
  repeat'(first|((first|refine zqh fun K c=>?_|refine zqs (s) ?_|refine zqs (x) ?_);simp(disch:=omega)only[go_sem,Z0,↓reduceIte,Z2,Z1])|((refine zqm _ rfl (fun m=>?_) (fun m=>?_))<;>(first|(cases m;done)|((try omega))))|refine nxt ?_|refine zqU ?_|(refine c _ ?_;clear c K))
  exact z01 rfl
 rw[b6]at x
 repeat'(first|((first|refine zqh fun K c=>?_|refine zqs (s) ?_|refine zqs (x) ?_);simp(disch:=omega)only[go_sem,Z0,↓reduceIte,Z2,Z1])|((refine zqm _ rfl (fun m=>?_) (fun m=>?_))<;>(first|(cases m;done)|((try omega))))|refine nxt ?_|(refine c _ ?_;clear c K))
 refine Sem.seq (Sem.walk (own:=[]) z5x (by decide+kernel) ?_);have hs:=zun M;obtain⟨hz,d3,d4⟩:=z9w hs;have f2:=z0n u;have I:=fun H n=>det_New (H:=H) (n:=n) u hz (by omega) (by omega);rw[z0o]at I
 repeat'(((refine zqr fun K c=>?_);simp(disch:=omega)only[go_sem,Z0,↓reduceIte,Z2,Z1]))
 refine callW_det (I _ _) fun o hF=>?_;obtain⟨v,t,O,X,R⟩:=ver_new hF hs;have c4:=hF.le;have b3:=hF.agree;obtain⟨r,H',q⟩:=o;simp[st0,St.withH,St.put]at O X c4 b3;subst O;have N:=b3 0 (by omega);simp[z0m]at N;have a1:=zhz (n:=q) (k:=0) (by omega);clear hF
 repeat'((refine c _ ?_;clear c K))
 refine zb3 (Sem.seq (Sem.walk (own:=[]) z5x (by decide+kernel) ?_))
 repeat'(first|((refine zqh fun K c=>?_);simp(disch:=omega)only[go_sem,Z0,↓reduceIte])|((refine zqm _ rfl (fun m=>?_) (fun m=>?_))<;>(first|(cases m;done)|((try omega))))|refine nxt ?_|(refine c _ ?_;clear c K))
 refine zb3 ?_;refine Sem.join (G6 l u) (sem_any (own:=[29,31]) z5x (by decide+kernel) ?_) fun g hG=>?_
 ·repeat'(first
   |refine anyA_end (by decide+kernel) ?_
   |(refine z3y (i:=0) (l:=[2]) (by decide+kernel) ?_;simp only[zsx,zsy];refine⟨?_,?_,trivial⟩)
   |(refine z3y (i:=0) (l:=[3]) (by decide+kernel) ?_;simp only[zsx,zsy];refine⟨?_,?_,trivial⟩)
   |(refine z3y (i:=0) (l:=[]) (by decide+kernel) ?_;simp only[zsx,zsy];refine⟨?_,trivial⟩)
   |(refine z3y (i:=1) (l:=[2]) (by decide+kernel) ?_;simp only[zsx,zsy];refine⟨?_,?_,trivial⟩)
   |(refine z3y (i:=1) (l:=[3]) (by decide+kernel) ?_;simp only[zsx,zsy];refine⟨?_,?_,trivial⟩)
   |(refine z3y (i:=1) (l:=[]) (by decide+kernel) ?_;simp only[zsx,zsy];refine⟨?_,trivial⟩)
   |(refine z3y (i:=2) (l:=[]) (by decide+kernel) ?_;simp only[zsx,zsy];refine⟨?_,trivial⟩)
   |(refine z3y (i:=2) (l:=[4]) (by decide+kernel) ?_;simp only[zsx,zsy];refine⟨?_,?_,trivial⟩)
   |(refine z3y (i:=3) (l:=[]) (by decide+kernel) ?_;simp only[zsx,zsy];refine⟨?_,trivial⟩)
   |(refine z3y (i:=3) (l:=[4]) (by decide+kernel) ?_;simp only[zsx,zsy];refine⟨?_,?_,trivial⟩)
   |(refine z3y (i:=4) (l:=[]) (by decide+kernel) ?_;simp only[zsx,zsy];refine⟨?_,trivial⟩)
   |(refine z3y (i:=5) (l:=[]) (by decide+kernel) ?_;simp only[zsx,zsy];refine⟨?_,trivial⟩)
   |(refine z3y (i:=4) (l:=[5]) (by decide+kernel) ?_;simp only[zsx,zsy];refine⟨?_,?_,trivial⟩)
   |((simp(disch:=omega)only[go_sem,Z0,↓reduceIte,reduceCtorEq,Z2,Zj,Z1,N,a1])))
  all_goals
   show G6 l u _;have ag:∀s x,Agree q H' (z0m (z0m H' q s) (q+1) x):=fun s x=>(Agree.upd (Zo _)).trans (Zo _) (Agree.upd (by omega))
   first
    |exact⟨by(simp(disch:=omega)only[go_sem,Z0]),by(simp(disch:=omega)only[go_sem,Z0]),q,q+1,t,v,by(simp(disch:=omega)only[go_sem,Z0]),by(simp(disch:=omega)only[go_sem,Z0]),by(simp(disch:=omega)only[go_sem,Z0]),by(simp(disch:=omega)only[go_sem,a1]),by(simp(disch:=omega)only[go_sem,Z7]),(ag (some (.row 31 1 [.ptr t 0])) (some (.row 27 1 (z08 u++[]))) 0 (by omega)).trans N,VerOK.keep X (ag _ _) (Zs q 2),R,(show q<q+2 by omega),(show q+1<q+2 by omega),by omega,by omega⟩
    |exact⟨by(simp(disch:=omega)only[go_sem,Z0]),by(simp(disch:=omega)only[go_sem,Z0]),q+1,q,t,v,by(simp(disch:=omega)only[go_sem,Z0]),by(simp(disch:=omega)only[go_sem,Z0]),by(simp(disch:=omega)only[go_sem,Z0]),by(simp(disch:=omega)only[go_sem]),by(simp(disch:=omega)only[go_sem,a1,Z7]),(ag (some (.row 27 1 (z08 u++[]))) (some (.row 31 1 [.ptr t 0])) 0 (by omega)).trans N,VerOK.keep X (ag _ _) (Zs q 2),R,(show q+1<q+2 by omega),(show q<q+2 by omega),by omega,by omega⟩
 clear N a1 b3 c4 X R I;obtain⟨h1,h2,E,F,t,v,h5,h6,h7,a2,a3,h0,X,R,f0,f1,g4,g5⟩:=hG;have b9:(E==F)=false:=by
  rw[beq_eq_false_iff_ne];intro h;rw[h,a3]at a2;cases a2
 have a0:(F==E)=false:=by
  rw[beq_eq_false_iff_ne];intro h;rw[h,a2]at a3;cases a3
 have ka:(E==0)=false:=beq_eq_false_iff_ne.2 (by omega);have a5:(0==E)=false:=beq_eq_false_iff_ne.2 (by omega);have kb:(F==0)=false:=beq_eq_false_iff_ne.2 (by omega);have c9:(0==F)=false:=beq_eq_false_iff_ne.2 (by omega);have b0:z08 (treeV v)=z08 u:=by rw[R]
 refine Sem.walk (own:=[8000000,3000039,3000042,3000043,5000044,3000051,3000054,3000055,4000056,10000056,3000068,5000069,3000105,5000123]) z5x (by decide+kernel) ?_
 repeat'(first|refine nxt ?_|((refine zqh fun K c=>?_);simp(disch:=omega)only[go_sem])|(refine c _ ?_;clear c K))
 (refine zqL (fun mz g=>∃(i:_) (a:List (Nat×V)) (t:Nat) (v:V),mz=l.length-i/\g.t 1=z63 l/\g.t 2=.ptr 0 0/\g.t 5=.ptr t 0/\g.t 6=.osl E a.length/\g.t 7=.osl F a.length/\g.t 8=.int .i64 i/\g.H 0=some (.box 27 (z08 (treeV v)))/\g.H (E)=some (.row 31 a.length (a.map fun p=>.ptr p.1 0))/\g.H (F)=some (.row 27 a.length (bks a))/\(i<=l.length)/\(0<a.length)/\(a.length<=i+1)/\(VerOK g.H g.nx t v)/\(∀p∈a,VerOK g.H g.nx p.1 p.2)/\(E<g.nx)/\(F<g.nx)) ?_ ?_);rintro mz g ⟨i,a,t,v,rfl,q1,q2,q5,q6,q7,q8,a6,B,C,g2,e9,g3,a7,a8,d1,d2⟩;rotate_left
 ·(refine⟨_,0,[(t,v)],t,v,rfl,?_⟩);simp(disch:=omega)only[go_sem,Z0,Z1,Zl,true_and,Zt,Zm,h1,h2,h5,h6,h7,h0,a2,a3,b0];exact⟨by unfold bks;simp only[Z9,Zr,Z7];rw[b0],X,fun p hp=>by rw[Ze]at hp;subst hp;exact X,f0,f1⟩
 have P:=b6;unfold rowI at P;rw[Z4,decide_eq_true_eq,List.all_eq_true]at P
 by_cases hi:i<l.length
 ·have hg:=(show (l.map za4)[i]?=some (za4 l[i]) from by rw[Zq,Zk hi];rfl)
  have d7:=Zu hi;have c0:=P.2 _ d7;rw[Z4]at c0;have hx:=few_ok _ c0.1;have Q:=a7.ok;obtain⟨hz,d3,d4⟩:=z9w Q;obtain⟨w,hw⟩:∃w,w=treeV v:=⟨_,rfl⟩
  have f3:=z0n (treeV v);have kd:=pc_DoA (treeV v) Q hz (by omega) l[i] hx;obtain⟨d,hd⟩:∃d,l[i]=d:=⟨_,rfl⟩
  rw[hd]at hg kd hx;rw[za4]at kd;rw[z0o]at kd;have f7:(g.nx==0)=false:=beq_eq_false_iff_ne.2 (by omega);have f8:(g.nx==E)=false:=beq_eq_false_iff_ne.2 (by omega);have f9:(g.nx==F)=false:=beq_eq_false_iff_ne.2 (by omega);have c8:(0==g.nx)=false:=beq_eq_false_iff_ne.2 (by omega);have e6:(E==g.nx)=false:=beq_eq_false_iff_ne.2 (by omega);have e7:(F==g.nx)=false:=beq_eq_false_iff_ne.2 (by omega);have Z:∀s x,Agree g.nx g.H (z0m (z0m g.H g.nx s) g.nx x):=fun s x j hj=>by rw[z03 _ (by omega),z03 _ (by omega)]
  by_cases he:(doA (treeV v) d).2=0
  ·obtain⟨e0,e1,b4,-,-,-⟩:=step_ok Q he;obtain⟨W,hW⟩:∃W,W=(doA (treeV v) d).1:=⟨_,rfl⟩
   obtain⟨b,_⟩:=(zcd d.it).1 hx;rw[<-hW]at e1 kd;have d9:standsT W=true:=by rw[<-e1];exact zdz e0 b4
   have c7:=(z9w d9).1
   repeat'(first|refine nxt ?_|((first|refine zqh fun K c=>?_|refine zqe (by decide+kernel) fun K c=>?_|refine zqt (kd) ?_);simp(disch:=omega)only[go_sem,Z0,Z3,↓reduceIte,reduceCtorEq,Z2,Z1,q1,q2,q5,q8,a6,z63,hd,za4,c8,he])|(refine zqd _ rfl ?_ ?_<;>intro m<;>(first|(cases m;done)|((try simp only[z05]at m);try omega)))|(refine c _ ?_;clear c K))
   have Y:=VerOK.keep a7 (Z (some (.box 27 zU)) (some (.box 27 (z08 W)))) (Zh g.nx);have d0:=det_step (d:=d) Q Y.lt Y.at_ Y.un Y.st hx he;rw[z0o,za4]at d0;refine callD_det d0 rfl rfl rfl (fun o ho=>⟨ho.le,ho.agree⟩) fun o hF=>?_;obtain⟨v2,t2,O,G,U,e2,d8⟩:=ver_step b4 hF e0;obtain⟨n1,n2⟩:=step_new Q b4 e0 Y.un d8 U e2;have c5:=hF.le;have L:=hF.agree;clear hF;obtain⟨r,H2,m2⟩:=o;simp only[]at O G c5 L;subst O;have J:Agree g.nx g.H H2:=(Z _ (some (.box 27 (z08 W)))).trans (Zh g.nx) L;have gA:=(J E d1).trans B;have gB:=(J F d2).trans C;have g0:=(J 0 (by omega)).trans a6;have gN:H2 g.nx=some (.box 27 (z08 W)):=(L g.nx (Nat.lt_succ_self _)).trans (by simp[z0m]);have e3:=VerOK.keep a7 J (by omega:g.nx<=m2);have kU:=G.unit;rw[U,e1]at kU;have kS:=zra W c7 W c7;rw[decide_eq_true rfl]at kS;have kN:=G.new e3;have kC:=zre d.it.unit b.unit.1 (by have:=b.unit.2.1;omega);rw[z0o]at kU kS kC;have f6:(0==m2)=false:=beq_eq_false_iff_ne.2 (by omega);have c6:z1d (z08 (treeV v)) 0 (z08 W)=z08 W:=by rw[z0n,z0n W];rfl
   have f4:cntT d.it.unit<=1000000:=by have:=b.unit.2.1;omega
   have f5:1<=(newV v2 v:Int):=by omega
   have a4:treeV v2=W:=U.trans e1
   have A:∀s x c3 t v,VerOK H2 m2 t v->VerOK (z0m (z0m (z0m H2 0 s) E x) F c3) m2 t v:=fun s x c3 t v h =>
    h.buts (fun j=>j=0 \/ j=E \/ j=F) (fun k hk=>by
     rcases hk with hk|hk|hk<;>rw[hk]
     ·exact .inl ⟨_,g0⟩
     ·exact .inr (.inl ⟨_,_,gA⟩)
     ·exact .inr (.inr ⟨_,_,gB⟩)) (fun j hj _=>by rw[z03 _ (fun e=>hj (by simp[e])),z03 _ (fun e=>hj (by simp[e])),z03 _ (fun e=>hj (by simp[e]))]) (Zo _)
   have a9:∀s x c3,∀p∈a++[(t2,v2)],VerOK (z0m (z0m (z0m H2 0 s) E x) F c3) m2 p.1 p.2:=fun s x c3 p hp=>by
    rcases Zi.1 hp with hp|hp
    ·exact A _ _ _ _ _ (VerOK.keep (a8 p hp) J (by omega))
    ·rw[Ze]at hp;subst hp;exact A _ _ _ _ _ G
   by_cases k0:d.it.kind=0
   ·rw[if_pos k0]at n2
    repeat'(first|refine nxt ?_|((first|refine zqh fun K c=>?_|refine zqe (by decide+kernel) fun K c=>?_|refine zqr fun K c=>?_|refine zqq (by decide+kernel) fun K c=>?_|refine zfi (kU) rfl ?_|refine zqt (kS) ?_|refine zqs (kC) ?_|refine z20 (kN) ?_);simp(disch:=omega)only[go_sem,Z0,Z3,↓reduceIte,reduceCtorEq,Z2,Zj,Z1,Zl,q1,q2,q5,q6,q7,q8,z63,hd,za4,a0,ka,a5,kb,gA,gB,g0,gN,c6,k0])|(refine zqd _ rfl ?_ ?_<;>intro m<;>(first|(cases m;done)|((try simp only[z05]at m);try omega)))|(refine c _ ?_;clear c K)|(refine zqf (fun M=>?_) (fun M=>?_)<;>(have y:=M;try simp only[z05]at y)<;>((first|have z:=eq_false y|have z:=eq_true y);simp(disch:=omega)only[go_sem,Z0,↓reduceIte,z];clear M z;try omega)))
    (refine Exists.intro _ (And.intro ?_ ⟨i+1,a++[(t2,v2)],t2,v2,rfl,?_⟩));rotate_left;simp(disch:=omega)only[go_sem,Z0,Z1,q1,q2,q5,q6,q7,q8,true_and,Zb,Zc,Zd,Zv,Zm,Z7,gA,gB,g0,b9,a0,ka,a5,kb,c9,a4,Zd,Zf];rotate_left
    ·omega
    exact⟨by rw[zwj,a4],by omega,by omega,A _ _ _ _ _ G,a9 _ _ _,by omega,by omega⟩
   ·rw[if_neg k0]at n2
    repeat'(first|refine nxt ?_|((first|refine zqh fun K c=>?_|refine zqe (by decide+kernel) fun K c=>?_|refine zqr fun K c=>?_|refine zqq (by decide+kernel) fun K c=>?_|refine zfi (kU) rfl ?_|refine zqt (kS) ?_|refine z20 (kN) ?_);simp(disch:=omega)only[go_sem,Z0,Z3,↓reduceIte,reduceCtorEq,Z2,Zj,Z1,Zl,q1,q2,q5,q6,q7,q8,z63,hd,za4,a0,ka,a5,kb,gA,gB,g0,gN,c6,k0])|(refine zqd _ rfl ?_ ?_<;>intro m<;>(first|(cases m;done)|((try simp only[z05]at m);try omega)))|(refine c _ ?_;clear c K)|(refine zqf (fun M=>?_) (fun M=>?_)<;>(have y:=M;try simp only[z05]at y)<;>((first|have z:=eq_false y|have z:=eq_true y);simp(disch:=omega)only[go_sem,Z0,↓reduceIte,z];clear M z;try omega)))
    (refine Exists.intro _ (And.intro ?_ ⟨i+1,a++[(t2,v2)],t2,v2,rfl,?_⟩));rotate_left;simp(disch:=omega)only[go_sem,Z0,Z1,q1,q2,q5,q6,q7,q8,true_and,Zb,Zc,Zd,Zv,Zm,Z7,gA,gB,g0,b9,a0,ka,a5,kb,c9,a4,Zd,Zf];rotate_left
    ·omega
    exact⟨by rw[zwj,a4],by omega,by omega,A _ _ _ _ _ G,a9 _ _ _,by omega,by omega⟩
  ·repeat'(first|refine nxt ?_|((first|refine zqh fun K c=>?_|refine zqe (by decide+kernel) fun K c=>?_|refine zqr fun K c=>?_|refine zqt (kd) ?_);simp(disch:=omega)only[go_sem,Z0,Z3,↓reduceIte,reduceCtorEq,Z2,Z1,q1,q2,q8,a6,z63,hd,za4,he])|(refine zqd _ rfl ?_ ?_<;>intro m<;>(first|(cases m;done)|((try simp only[z05]at m);try omega)))|refine zqz ?_|(refine c _ ?_;clear c K))
   (refine Exists.intro _ (And.intro ?_ ⟨i+1,a,t,v,rfl,?_⟩));rotate_left;simp(disch:=omega)only[go_sem,Z0,q1,q2,q5,q6,q7,q8,a6,B,C,true_and,and_true,and_self,Zb,Zc,c8,e6,e7];rotate_left
   ·omega
   exact⟨by omega,e9,by omega,VerOK.keep a7 (Z _ _) (Zh g.nx),fun p hp=>VerOK.keep (a8 p hp) (Z _ _) (Zh g.nx)⟩
 ·skip
  repeat'(first|refine nxt ?_|((refine zqh fun K c=>?_);simp(disch:=omega)only[go_sem,Z0,↓reduceIte,q1,q8,z63])|(refine zqd _ rfl ?_ ?_<;>intro m<;>(((try simp only[z05]at m);try omega)))|refine zqz ?_|(refine c _ ?_;clear c K))
  obtain⟨H3,b2⟩:∃H3,H3=g.H:=⟨_,rfl⟩
  obtain⟨m3,b5⟩:∃m3,m3=g.nx:=⟨_,rfl⟩
  rw[<-b2]at B C;rw[<-b2,<-b5]at a8;rw[<-b5]at d1 d2;(refine zqL (fun mz g=>∃(k:_),mz=a.length-k/\g.t 6=.osl E a.length/\g.t 7=.osl F a.length/\g.t 15=.int .i64 k/\g.nx=m3/\(k<=a.length)/\(g.H=H3)) ?_ ?_);rintro mz g ⟨k,rfl,p6,p7,b7,b8,g1,e8⟩;rotate_left
  ·(refine⟨_,0,rfl,?_⟩);simp(disch:=omega)only[go_sem,Z0,q6,q7,and_self,Zt,b2,b5]
  subst e8
  by_cases hk:k<a.length
  ·have X:=a8 a[k] (Zu hk);have d6:(a.map fun p=>D.ptr p.1 0)[k]?=some (.ptr a[k].1 0):=by rw[Zq,Zk hk];rfl
   have e4:((bks a).drop (k*8)).take 8=z08 (treeV a[k].2):=zji (f:=fun p:Nat×V=>z08 (treeV p.2)) (sz:=8) (fun _=>z0h _) hk;have e5:=bks_len a;have kU:=X.unit;have kS:=zra _ X.sz.1 _ X.sz.1;rw[decide_eq_true rfl]at kS;rw[z0o]at kU kS;rw[<-b8]at kU
   repeat'(first|refine nxt ?_|((first|refine zqh fun K c=>?_|refine zqe (by decide+kernel) fun K c=>?_|refine zqr fun K c=>?_|refine zfi (kU) rfl ?_|refine zqt (kS) ?_);simp(disch:=omega)only[go_sem,Z0,Z3,↓reduceIte,reduceCtorEq,Z2,p6,p7,b7,b8,B,C,d6,e4,e5])|((first|refine zqd _ rfl (fun m=>?_) (fun m=>?_)|refine zqm _ rfl (fun m=>?_) (fun m=>?_))<;>(first|(cases m;done)|((try simp only[z05]at m);try omega)))|(refine c _ ?_;clear c K))
   (refine Exists.intro _ (And.intro ?_ ⟨k+1,rfl,?_⟩));rotate_left;simp(disch:=omega)only[go_sem,Z0,p6,p7,b7,true_and,and_true,Zb,Zc];rotate_left
   all_goals omega
  ·skip
   repeat'(first|refine nxt ?_|((refine zqh fun K c=>?_);simp(disch:=omega)only[go_sem,Z0,↓reduceIte,p6,b7,b8])|(refine zqd _ rfl ?_ ?_<;>intro m<;>(((try simp only[z05]at m);try omega)))|refine zqz ?_|refine zqU ?_|(refine c _ ?_;clear c K))
   exact z01 rfl
end
end
end Go.Proofs.YtppebcifiejplaaGreatDoor
