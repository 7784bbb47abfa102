/- OkA -/
import Derived.Test.YtplhdjdkobddnaaGreatTr31
set_option linter.unusedVariables false
set_option maxRecDepth 100000
set_option maxHeartbeats 40000000
namespace Go.Proofs.YtplhdjdkobddnaaGreat
section
open Go.RowKit
def dvE (l:List Dv):List (Int × Nat):=l.map (fun d=>((d.id:Int),d.val))
def SrtD (l:List Dv):Prop:=l.Pairwise (fun x y=>x.id<y.id)
theorem srt_of {l:List Dv} (h:AscE (dvE l)):SrtD l:=by
 unfold AscE dvE at h
 rw[List.pairwise_map] at h
 exact h.imp (fun q=>by have:(_:Int)<_:=q;omega)
theorem insK_after {l:List Dv} {d:Dv}:∀(s:List Dv),(∀x∈l,d.id<x.id)→l.foldl (insK d) (s,true)=(s++l,true):=by
 induction l with
 |nil=>intro s _;simp
 |cons x l ih=>
  intro s h
  have hx:=h x List.mem_cons_self
  have e1:insK d (s,true) x=(s++ [x],true):=by
   unfold insK
   simp only[Bool.true_eq_false,and_false,if_false]
   rw[if_neg (by omega)]
  rw[List.foldl_cons,e1,ih _ (fun y hy=>h y (List.mem_cons_of_mem _ hy))]
  simp
theorem insK_all {d:Dv}:∀(l s:List Dv),SrtD l→(∀x∈l,d.id≤x.id→True)→
  (if (l.foldl (insK d) (s,false)).2=true then (l.foldl (insK d) (s,false)).1 else (l.foldl (insK d) (s,false)).1++ [d])=s++l.filter (fun x=>decide (x.id<d.id))++d :: l.filter (fun x=>decide (d.id<x.id)):=by
 intro l
 induction l with
 |nil=>intro s _ _;simp
 |cons x l ih=>
  intro s hs _
  have hs2:=(List.pairwise_cons.1 hs)
  rw[List.foldl_cons]
  by_cases h1:x.id<d.id
  ·have e1:insK d (s,false) x=(s++ [x],false):=by
    unfold insK
    simp only[]
    rw[if_neg (by omega),if_neg (by omega)]
   rw[e1,ih _ hs2.2 (fun _ _ _=>trivial),List.filter_cons_of_pos (by simpa using h1),List.filter_cons_of_neg (by simp;omega)]
   simp
  ·have hall:∀y∈l,d.id<y.id:=fun y hy=>by have:=hs2.1 y hy;omega
   have hf1:l.filter (fun x=>decide (x.id<d.id))= []:=filter_no (fun y hy=>by have:=hall y hy;simp;omega)
   have hf2:l.filter (fun x=>decide (d.id<x.id))=l:=filter_all (fun y hy=>by simpa using hall y hy)
   by_cases h2:x.id=d.id
   ·have e1:insK d (s,false) x=(s++ [d],true):=by
     unfold insK
     simp only[and_true]
     rw[if_pos h2,if_pos (by omega)]
    rw[e1,insK_after _ hall,List.filter_cons_of_neg (by simp;omega),List.filter_cons_of_neg (by simp;omega),hf1,hf2]
    simp
   ·have e1:insK d (s,false) x=(s++ [d]++ [x],true):=by
     unfold insK
     simp only[and_true]
     rw[if_neg h2,if_pos (by omega)]
    rw[e1,insK_after _ hall,List.filter_cons_of_neg (by simp;omega),List.filter_cons_of_pos (by simp;omega),hf1,hf2]
    simp
theorem insF_eq {l:List Dv} (h:SrtD l) (d:Dv):insF l d=l.filter (fun x=>decide (x.id<d.id))++d :: l.filter (fun x=>decide (d.id<x.id)):=by
 have:=insK_all l [] h (d:=d) (fun _ _ _=>trivial)
 unfold insF insTo
 rw[List.take_length]
 simpa using this
theorem insF_dvE {l:List Dv} (h:SrtD l) (d:Dv):dvE (insF l d)=insE (dvE l) (d.id:Int) d.val:=by
 rw[insF_eq h]
 unfold insE dvE
 rw[List.filter_map,List.filter_map,List.map_append,List.map_cons]
 have e1:((fun e:Int × Nat=>decide (e.1<(d.id:Int))) ∘ fun d:Dv=>((d.id:Int),d.val))=fun x:Dv=>decide (x.id<d.id):=by
  funext x
  simp
 have e2:((fun e:Int × Nat=>decide ((d.id:Int)<e.1)) ∘ fun d:Dv=>((d.id:Int),d.val))=fun x:Dv=>decide (d.id<x.id):=by
  funext x
  simp
 rw[e1,e2]
theorem insF_mem {l:List Dv} (h:SrtD l) {d x:Dv} (hx:x∈insF l d):x=d∨(x∈l∧x.id≠d.id):=by
 rw[insF_eq h] at hx
 rcases List.mem_append.1 hx with q|q
 ·have:=List.mem_filter.1 q
  have h2:=of_decide_eq_true this.2
  exact .inr ⟨this.1,by omega⟩
 ·rcases List.mem_cons.1 q with q|q
  ·exact .inl q
  ·have:=List.mem_filter.1 q
   have h2:=of_decide_eq_true this.2
   exact .inr ⟨this.1,by omega⟩
theorem insF_in {l:List Dv} (h:SrtD l) (d:Dv):d∈insF l d∧∀x∈l,x.id≠d.id→x∈insF l d:=by
 rw[insF_eq h]
 refine ⟨List.mem_append_right _ List.mem_cons_self,fun x hx hne=>?_⟩
 by_cases q:x.id<d.id
 ·exact List.mem_append_left _ (List.mem_filter.2 ⟨hx,by simpa using q⟩)
 ·exact List.mem_append_right _ (List.mem_cons_of_mem _ (List.mem_filter.2 ⟨hx,by simp;omega⟩))
theorem insF_len {l:List Dv} (h:SrtD l) (d:Dv):(insF l d).length≤l.length+1:=by
 rw[insF_eq h,List.length_append,List.length_cons]
 have:∀l:List Dv,(l.filter (fun x=>decide (x.id<d.id))).length+(l.filter (fun x=>decide (d.id<x.id))).length≤l.length:=by
  intro l
  induction l with
  |nil=>simp
  |cons x l ih=>
   simp only[List.filter_cons,List.length_cons]
   by_cases h1:x.id<d.id
   ·simp only[h1,decide_true,if_true,List.length_cons,show¬d.id<x.id by omega,decide_false,Bool.false_eq_true,if_false];omega
   ·by_cases h2:d.id<x.id
    ·simp only[h1,h2,decide_true,if_true,List.length_cons,decide_false,Bool.false_eq_true,if_false];omega
    ·simp only[h1,h2,decide_false,Bool.false_eq_true,if_false];omega
 have:=this l
 omega
def othD (l:List Dv) (id:Nat):List Dv:=l.filter (fun x=>decide (x.id≠id))
theorem insF_count {l:List Dv} (h:SrtD l) (d:Dv) (u:Nat):((insF l d).map Dv.rt).count u=(d.rt :: (othD l d.id).map Dv.rt).count u:=by
 rw[insF_eq h]
 have e:∀l:List Dv,SrtD l→othD l d.id=l.filter (fun x=>decide (x.id<d.id))++l.filter (fun x=>decide (d.id<x.id)):=by
  intro l
  induction l with
  |nil=>intro _;rfl
  |cons x l ih=>
   intro hs
   have hs2:=List.pairwise_cons.1 hs
   have:=ih hs2.2
   unfold othD at this ⊢
   by_cases h1:x.id<d.id
   ·rw[List.filter_cons_of_pos (by simp;omega),List.filter_cons_of_pos (by simpa using h1),List.filter_cons_of_neg (by simp;omega),this]
    rfl
   ·have hall:∀y∈l,d.id<y.id:=fun y hy=>by have:=hs2.1 y hy;omega
    have hf1:l.filter (fun x=>decide (x.id<d.id))= []:=filter_no (fun y hy=>by have:=hall y hy;simp;omega)
    by_cases h2:x.id=d.id
    ·rw[List.filter_cons_of_neg (by simp;omega),List.filter_cons_of_neg (by simp;omega),List.filter_cons_of_neg (by simp;omega),this]
    ·rw[List.filter_cons_of_pos (by simp;omega),List.filter_cons_of_neg (by simp;omega),List.filter_cons_of_pos (by simp;omega),this,hf1]
     rfl
 rw[e l h,List.map_append,List.map_append,List.map_cons,List.count_append,List.count_cons,List.count_cons,List.count_append]
 omega
theorem insF_roots {l:List Dv} (h:SrtD l) (d:Dv) (t u r id:Nat) (hr:d.rt=r) (hi:d.id=id):(t :: (insF l d).map Dv.rt).count u=(r :: t :: (othD l id).map Dv.rt).count u:=by
 subst hr hi
 rw[List.count_cons,insF_count h,List.count_cons,List.count_cons,List.count_cons]
 omega
theorem dv_split {l:List Dv} (h:SrtD l) {id:Nat} (hh:hasD l id=true):∃pre post,l=pre++dvAt l id :: post∧(fnd l id).getD 0=pre.length∧(dvAt l id).id=id∧(∀x∈pre,x.id<id)∧(∀x∈post,id<x.id)∧othD l id=pre++post:=by
 obtain ⟨h1,h2⟩:=hasD_at hh
 obtain ⟨k,hk⟩ :∃k,(fnd l id).getD 0=k:=⟨_,rfl⟩
 have ed:dvAt l id=l[k]'(by omega):=by
  unfold dvAt
  rw[hk,List.getElem?_eq_getElem (by omega)]
  rfl
 have es:l=l.take k++l[k]'(by omega) :: l.drop (k+1):=by
  rw[←List.drop_eq_getElem_cons,List.take_append_drop]
 rw[hk] at h1 ⊢
 rw[ed] at h2 ⊢
 obtain ⟨x,hx⟩ :∃x,l[k]=x:=⟨_,rfl⟩
 rw[hx] at es h2 ⊢
 have hp:SrtD (l.take k++x :: l.drop (k+1)):=by rw[←es];exact h
 have hp2:=List.pairwise_append.1 hp
 have hp3:=List.pairwise_cons.1 hp2.2.1
 have q1:∀y∈l.take k,y.id<id:=fun y hy=>by have:=hp2.2.2 y hy x List.mem_cons_self;omega
 have q2:∀y∈l.drop (k+1),id<y.id:=fun y hy=>by have:=hp3.1 y hy;omega
 refine ⟨l.take k,l.drop (k+1),es,by rw[List.length_take];omega,h2,q1,q2,?_⟩
 unfold othD
 generalize hA:l.take k=A at *
 generalize hB:l.drop (k+1)=B at *
 rw[es,List.filter_append,List.filter_cons_of_neg (by simp;omega),filter_all (fun y hy=>by have:=q1 y hy;simp;omega),filter_all (fun y hy=>by have:=q2 y hy;simp;omega)]
theorem dv_no {l:List Dv} {id:Nat} (hh:hasD l id=false):∀x∈l,x.id≠id:=by
 intro x hx e
 have h2:fnd l id=none:=by
  unfold hasD at hh
  cases h:fnd l id
  ·rfl
  ·rw[h] at hh;cases hh
 unfold fnd at h2
 rw[List.findIdx?_eq_none_iff] at h2
 have:=h2 x hx
 simp[e] at this
theorem oth_no {l:List Dv} {id:Nat} (hh:hasD l id=false):othD l id=l:=filter_all (fun x hx=>by have:=dv_no hh x hx;simpa using this)
end
end Go.Proofs.YtplhdjdkobddnaaGreat
