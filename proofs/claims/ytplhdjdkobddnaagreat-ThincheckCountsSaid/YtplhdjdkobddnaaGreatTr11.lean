/- CtD CtE -/
import Derived.Test.YtplhdjdkobddnaaGreatTr10
set_option linter.unusedVariables false
set_option maxRecDepth 100000
set_option maxHeartbeats 40000000
namespace Go.Proofs.YtplhdjdkobddnaaGreat
section
def St.fin (S:St) (c:Nat) (n:Nd):Option (Nat × List (Int × Nat) × St):=
 if n.es.length≤7 then some (c,[],S.put c n) else
 match S.bl.pick with
 |none=>none
 |some d=>some (c,[((n.es.drop (n.es.length / 2))[0]?.getD (0,0) |>.1,d)],(({ S with bl:=S.bl.setN d 1 }:St).put d { n with es:=n.es.drop (n.es.length / 2) }).put c { n with es:=n.es.take (n.es.length / 2) })
def St.ins (k:Bool) (key:Int) (v:Nat):Nat→St→Nat→Nd→Option (Nat × List (Int × Nat) × St)
 |0,S,b,n=>match S.touch b n k with
  |none=>none
  |some (c,S1)=>S1.fin c { n with es:=putN n.es key v }
 |l+1,S,b,n=>match S.touch b n k with
  |none=>none
  |some (c,S1)=>
   let i:=(findN n.es key).toNat
   let x:=if findN n.es key<0 then key else (n.es[i]?.getD (0,0)).1
   match S1.load (n.es[i]?.getD (0,0)).2 with
   |none=>none
   |some m=>match St.ins k key v l S1 (n.es[i]?.getD (0,0)).2 m with
    |none=>none
    |some (d,ex,S2)=>S2.fin c { n with es:=n.es.take i++(x,d) :: (ex++n.es.drop (i+1)) }
structure Keep (S S':St) (Z:Nat→Bool) (rs:List Nat) (G G':Gh):Prop where
 dk:S'.dk=S.dk
 sq:S'.seq=S.seq
 bo:S'.bl.old=S.bl.old
 bn:S'.bl.now.length=S.bl.now.length
 dl:S'.da.now.length=S.da.now.length
 do_:S'.da.old=S.da.old
 nd:∀r∈rs,S'.nd Z r=S.nd Z r
 gh:∀r∈rs,G'.E r=G.E r∧G'.A r=G.A r∧G'.P r=G.P r∧G'.K r=G.K r
 gh2:∀r∈rs,G'.T r=G.T r∧G'.L r=G.L r∧G'.Q r=G.Q r∧G'.U r=G.U r
 zk:∀u,Z u=true→S'.bl.count u=S.bl.count u∧S'.ch u=S.ch u
theorem Keep.refl (S:St) (Z:Nat→Bool) (rs:List Nat) (G:Gh):Keep S S Z rs G G:=⟨rfl,rfl,rfl,rfl,rfl,rfl,fun _ _=>rfl,fun _ _=>⟨rfl,rfl,rfl,rfl⟩,fun _ _=>⟨rfl,rfl,rfl,rfl⟩,fun _ _=>⟨rfl,rfl⟩⟩
theorem drop_key {l:List (Int × Nat)} (h:1<l.length):∃e l2,l.drop (l.length / 2)=e :: l2∧((l.drop (l.length / 2))[0]?.getD (0,0)).1=e.1:=by
 have h1:l.length / 2<l.length:=by omega
 rw[List.drop_eq_getElem_cons h1]
 exact ⟨_,_,rfl,rfl⟩
section
variable {S:St} {Z:Nat→Bool} {rs pd:List Nat} {G:Gh} {b c:Nat} {n:Nd} {k:Bool} {key:Int} {v:Nat}
theorem count_free {m:Mp} {c:Nat} (hp:m.pick=some c):(m.setN c 1).free+1=m.free:=by
 obtain ⟨p1,p2,p3⟩:=Mp.pick_some hp
 unfold Mp.free
 rw[Mp.setN_len]
 have key:∀n,c<n→(List.range n).countP (m.setN c 1).isFree+1=(List.range n).countP m.isFree:=by
  intro n
  induction n with
  |zero=>omega
  |succ n ih=>
   intro hn
   rw[List.range_succ,List.countP_append,List.countP_append]
   have e:∀u,u≠c→(m.setN c 1).isFree u=m.isFree u:=fun u hu=>by
    unfold Mp.isFree
    rw[Mp.count_setN p1,if_neg hu]
    rfl
   by_cases hc:c=n
   ·subst hc
    have h1:(List.range c).countP (m.setN c 1).isFree=(List.range c).countP m.isFree:=by
     refine List.countP_congr (fun u hu=>?_)
     rw[e u (by have:=List.mem_range.1 hu;omega)]
    rw[h1,List.countP_singleton,List.countP_singleton]
    have h2:(m.setN c 1).isFree c=false:=by
     unfold Mp.isFree
     rw[Mp.count_setN p1,if_pos rfl]
     simp
    have h3:m.isFree c=true:=by
     unfold Mp.isFree
     rw[p2,p3]
     rfl
    rw[h2,h3]
    simp
   ·have:=ih (by omega)
    rw[List.countP_singleton,List.countP_singleton,e n (fun q=>hc q.symm)]
    omega
 exact key _ p1
structure FinP (S S':St) (Z:Nat→Bool) (rs pd:List Nat) (G G':Gh) (lv:Nat) (k:Bool) (c:Nat) (ex:List (Int × Nat)) (L:List (Int × Nat)) (A:List Int) (p q w x y z:Nat):Prop where
 inv:Inv S' Z (c :: (ex.map Prod.snd++rs)) pd G'
 keep:Keep S S' Z rs G G'
 nc:∃m,S'.nd Z c=some m∧m.lv=lv∧G'.K c=k∧(ex= []→w≤m.es.length)
 ne:∀e∈ex,∃m,S'.nd Z e.2=some m∧m.lv=lv∧G'.K e.2=k∧(∀y∈G'.A e.2,e.1≤y)∧∀y∈G'.A c,y<e.1
 e1:ex.length≤1
 sub:∀y,(y∈G'.A c∨∃e∈ex,y∈G'.A e.2)→y∈A
 key:∀e∈ex,e.1∈A
 con:G'.E c++ex.flatMap (fun e=>G'.E e.2)=L
 pot:G'.P c+(ex.map (fun e=>G'.P e.2)).sum+ex.length * 4 ^ (lv+1)≤p
 pot2:G'.T c+(ex.map (fun e=>G'.T e.2)).sum+4 ^ lv * (G'.L c+(ex.map (fun e=>G'.L e.2)).sum)≤x
 potQ:G'.Q c+(ex.map (fun e=>G'.Q e.2)).sum≤y
 potU:G'.U c+(ex.map (fun e=>G'.U e.2)).sum≤z
 four:∀e∈ex,G'.L c=4∧G'.L e.2=4
 fr:S.bl.free≤S'.bl.free+q
 na:∃y,y∈G'.A c
 nx:∀e∈ex,G'.A e.2≠[]
theorem NdF.sub {N:Nat→Option Nd} {l:List (Int × Nat)} (h:NdF N G k n) (hs:l.Sublist n.es) (hn:n.lv≠0→l≠[]):NdF N G k { n with es:=l }:=
 ⟨h.lv,List.Pairwise.sublist hs h.asc,fun e he=>h.rng e (hs.subset he),hn,fun hl e he=>h.kid hl e (hs.subset he),fun hl=>List.Pairwise.sublist hs (h.sep hl),fun hl e he=>h.kn hl e (hs.subset he)⟩
theorem kids_app (n:Nd) (l1 l2:List (Int × Nat)) (h:n.es=l1++l2):kids n=kids { n with es:=l1 } ++kids { n with es:=l2 }:=by
 unfold kids
 dsimp only
 split
 ·rfl
 ·rw[h,List.map_append]
theorem dats_app (k:Bool) (n:Nd) (l1 l2:List (Int × Nat)) (h:n.es=l1++l2):dats k n=dats k { n with es:=l1 } ++dats k { n with es:=l2 }:=by
 unfold dats
 dsimp only
 split
 ·rw[h,List.map_append]
 ·rfl
theorem eOf_app (G:Gh) (n:Nd) (l1 l2:List (Int × Nat)) (h:n.es=l1++l2):eOf G n=eOf G { n with es:=l1 } ++eOf G { n with es:=l2 }:=by
 unfold eOf
 dsimp only
 split
 ·rw[h]
 ·rw[h,List.flatMap_append]
theorem pOf_app (G:Gh) (n:Nd) (l1 l2:List (Int × Nat)) (h:n.es=l1++l2) (h1:l1.length=4) (h2:l2.length=4):pOf G { n with es:=l1 } +pOf G { n with es:=l2 } +4 ^ (n.lv+1)=pOf G n:=by
 unfold pOf
 dsimp only
 rw[h1,h2,h,List.length_append,h1,h2,Nat.pow_succ]
 split
 ·omega
 ·rw[List.map_append,List.sum_append]
  omega
theorem tOf_app (G:Gh) (n:Nd) (l1 l2:List (Int × Nat)) (h:n.es=l1++l2):tOf G { n with es:=l1 } +tOf G { n with es:=l2 } =tOf G n∧uOf G { n with es:=l1 } +uOf G { n with es:=l2 } =uOf G n:=by
 unfold tOf uOf
 dsimp only
 rw[h]
 split
 ·exact ⟨rfl,rfl⟩
 ·rw[List.map_append,List.sum_append,List.map_append,List.sum_append]
  exact ⟨rfl,rfl⟩
theorem qOf_u (G:Gh) (n:Nd):qOf G n=4 ^ n.lv * (4 - n.es.length)+uOf G n:=rfl
theorem pOf_t (G:Gh) (n:Nd):pOf G n=4 ^ n.lv * (n.es.length - 4)+tOf G n:=rfl
theorem aOf_mem {y:Int} {n:Nd}:y∈aOf G n↔(∃e∈n.es,y=e.1)∨(n.lv≠0∧∃e∈n.es,y∈G.A e.2):=by
 unfold aOf
 rw[List.mem_append,List.mem_map]
 constructor
 ·rintro (⟨e,he,rfl⟩|h)
  ·exact .inl ⟨e,he,rfl⟩
  ·split at h
   ·cases h
   ·rename_i hl
    obtain ⟨e,he,h⟩:=List.mem_flatMap.1 h
    exact .inr ⟨hl,e,he,h⟩
 ·rintro (⟨e,he,rfl⟩| ⟨hl,e,he,h⟩)
  ·exact .inl ⟨e,he,rfl⟩
  ·rw[if_neg hl]
   exact .inr (List.mem_flatMap.2 ⟨e,he,h⟩)
theorem set_other {u:Nat} (h:u≠c):(G.set c n k).E u=G.E u∧(G.set c n k).A u=G.A u∧(G.set c n k).P u=G.P u∧(G.set c n k).K u=G.K u:=
 ⟨if_neg h,if_neg h,if_neg h,if_neg h⟩
theorem set_other2 {u:Nat} (h:u≠c):(G.set c n k).T u=G.T u∧(G.set c n k).L u=G.L u∧(G.set c n k).Q u=G.Q u∧(G.set c n k).U u=G.U u:=
 ⟨if_neg h,if_neg h,if_neg h,if_neg h⟩
theorem set_same2:(G.set c n k).T c=tOf G n∧(G.set c n k).L c=n.es.length∧(G.set c n k).Q c=qOf G n∧(G.set c n k).U c=uOf G n:=
 ⟨if_pos rfl,if_pos rfl,if_pos rfl,if_pos rfl⟩
theorem set_same:(G.set c n k).E c=eOf G n∧(G.set c n k).A c=aOf G n∧(G.set c n k).P c=pOf G n∧(G.set c n k).K c=k:=
 ⟨if_pos rfl,if_pos rfl,if_pos rfl,if_pos rfl⟩
theorem nd_Zi {u:Nat} (h:u≠c):S.nd (Zi Z c) u=S.nd Z u:=by unfold St.nd;rw[Zi_ne h]
theorem fin_ok (h:Inv S (Zi Z c) (kids n++rs) (dats k n++pd) G) (hz:Z c=false) (hc1:S.bl.count c=1) (hf:NdF (S.nd (Zi Z c)) G k n) (hl:n.es.length≤8) (hne:n.es≠[]) :
  match S.fin c n with
  |none=>S.bl.free=0
  |some (d,ex,S')=>d=c∧∃G',FinP S S' Z rs pd G G' n.lv k c ex (eOf G n) (aOf G n) (pOf G n) 1 n.es.length (tOf G n+4 ^ n.lv * n.es.length) (qOf G n) (uOf G n):=by
 have hzc:=h.zz c (Zi_self Z c)
 rw[List.count_append] at hzc
 have hcr:∀r∈rs,r≠c:=fun r hr e=>by
  have:=List.count_pos_iff.2 (e▸hr)
  omega
 unfold St.fin
 by_cases h7:n.es.length≤7
 ·rw[if_pos h7]
  dsimp only
  obtain ⟨c1,c2,c3⟩:=h.close hz (by omega) hc1 hf h7
  obtain ⟨s1,s2,s3,s4⟩:=set_same (G:=G) (c:=c) (n:=n) (k:=k)
  refine ⟨rfl,G.set c n k,c1,⟨rfl,rfl,rfl,rfl,rfl,rfl,fun r hr=>?_,fun r hr=>set_other (hcr r hr),fun r hr=>set_other2 (hcr r hr),fun u hu=>⟨rfl,?_⟩⟩,⟨_,c2,rfl,s4,fun _=>Nat.le_refl _⟩,(fun e he=>by cases he),(by simp),?_,(fun e he=>by cases he),?_,?_,?_,?_,?_,(fun e he=>by cases he),(by simp[St.put]),?_,(fun e he=>by cases he)⟩
  ·rw[c3 r (hcr r hr),nd_Zi (hcr r hr)]
  ·have:u≠c:=by rintro rfl;rw[hz] at hu;cases hu
   show (if u=c then _ else _)=_
   rw[if_neg this]
  ·rintro y (hy| ⟨e,he,-⟩)
   ·rw[s2] at hy;exact hy
   ·cases he
  ·rw[s1];simp
  ·rw[s3];simp
  ·obtain ⟨w1,w2,w3,w4⟩:=set_same2 (G:=G) (c:=c) (n:=n) (k:=k)
   rw[w1,w2];simp
  ·rw[(set_same2 (G:=G) (c:=c) (n:=n) (k:=k)).2.2.1];simp
  ·rw[(set_same2 (G:=G) (c:=c) (n:=n) (k:=k)).2.2.2];simp
  ·obtain ⟨e,l2,he⟩:=List.exists_cons_of_ne_nil hne
   exact ⟨e.1,by rw[s2];exact aOf_mem.2 (.inl ⟨e,by rw[he];exact List.mem_cons_self,rfl⟩)⟩
 ·rw[if_neg h7]
  rcases hp:S.bl.pick with _|d
  ·exact Mp.pick_none hp
  ·dsimp only
   have hlen:n.es.length=8:=by omega
   have h4:n.es.length / 2=4:=by omega
   obtain ⟨e0,l2,hd0,hk0⟩:=drop_key (l:=n.es) (by omega)
   rw[hk0]
   rw[h4] at hd0 ⊢
   have hsp:n.es=n.es.take 4++n.es.drop 4:=(List.take_append_drop 4 n.es).symm
   have ht4:(n.es.take 4).length=4:=by rw[List.length_take];omega
   have hr4:(n.es.drop 4).length=4:=by rw[List.length_drop];omega
   obtain ⟨a1,a2,a3,a4,a5,a6,a7⟩:=h.alloc hp
   obtain ⟨z1,z2⟩:=Zi_false a5
   obtain ⟨p1,p2,p3⟩:=Mp.pick_some hp
   have hdk:∀(l:List (Int × Nat)),l.Sublist n.es→d∉kids { n with es:=l }:=fun l hs hx=>by
    have hx2:d∈kids n:=by
     unfold kids at hx ⊢
     split at hx
     ·cases hx
     ·rename_i hll
      rw[if_neg hll]
      obtain ⟨e,he,he2⟩:=List.mem_map.1 hx
      exact List.mem_map.2 ⟨e,hs.subset he,he2⟩
    unfold kids at hx2
    split at hx2
    ·cases hx2
    ·rename_i hll
     obtain ⟨e,he,rfl⟩:=List.mem_map.1 hx2
     obtain ⟨m,hm,-⟩:=hf.kid hll e he
     exact (nd_count hm).1 p2
   have hdr:∀r∈rs,r≠d:=fun r hr e=>by
    have h1:=h.ct d (by rw[Zi_ne z2];exact z1)
    rw[List.count_append] at h1
    have:=List.count_pos_iff.2 (e▸hr)
    omega
   have hfb:NdF (S.nd (Zi Z c)) G k { n with es:=n.es.drop 4 }:=hf.sub (List.drop_sublist 4 n.es) (fun _=>by rw[hd0];exact List.cons_ne_nil _ _)
   have hfa:NdF (S.nd (Zi Z c)) G k { n with es:=n.es.take 4 }:=hf.sub (List.take_sublist 4 n.es) (fun _ e=>by rw[e] at ht4;cases ht4)
   have b0:=a1.perm (rs':=kids { n with es:=n.es.drop 4 } ++(kids { n with es:=n.es.take 4 } ++rs)) (pd':=dats k { n with es:=n.es.drop 4 } ++(dats k { n with es:=n.es.take 4 } ++pd))
    (fun u=>by rw[kids_app n _ _ hsp];simp only[List.count_append];omega) (fun u=>by rw[dats_app k n _ _ hsp];simp only[List.count_append];omega)
   obtain ⟨b1,b2,b3⟩:=b0.close a5 (by rw[a3];omega) a3 (hfb.cong (fun x _=>a7 x)) (by show (n.es.drop 4).length≤7;omega)
   have c0:=b1.perm (rs':=kids { n with es:=n.es.take 4 } ++(d :: rs)) (pd':=dats k { n with es:=n.es.take 4 } ++pd) (fun u=>by simp only[List.count_append,List.count_cons];omega) (fun u=>rfl)
   have hca:(({ S with bl:=S.bl.setN d 1 }:St).put d { n with es:=n.es.drop 4 }).bl.count c=1:=by
    show (S.bl.setN d 1).count c=1
    rw[Mp.count_setN p1,if_neg (fun e=>z2 e.symm)]
    exact hc1
   obtain ⟨c1,c2,c3⟩:=c0.close hz (by omega) hca ((hfa.set (hdk _ (List.take_sublist 4 n.es))).cong (fun x hx=>by
    have hxd:x≠d:=fun e=>hdk _ (List.take_sublist 4 n.es) (e▸hx)
    rw[b3 x hxd,a7 x])) (by show (n.es.take 4).length≤7;omega)
   obtain ⟨s1,s2,s3,s4⟩:=set_same (G:=G) (c:=d) (n:={ n with es:=n.es.drop 4 }) (k:=k)
   obtain ⟨t1,t2,t3,t4⟩:=set_same (G:=G.set d { n with es:=n.es.drop 4 } k) (c:=c) (n:={ n with es:=n.es.take 4 }) (k:=k)
   obtain ⟨o1,o2,o3,o4,o5,o6⟩:=of_set (G:=G) (c:=d) (n:={ n with es:=n.es.drop 4 }) (k:=k) (hdk _ (List.take_sublist 4 n.es))
   obtain ⟨r1,r2,r3,r4⟩:=set_other (G:=G.set d { n with es:=n.es.drop 4 } k) (c:=c) (n:={ n with es:=n.es.take 4 }) (k:=k) z2
   rw[o1] at t1
   rw[o2] at t2
   rw[o3] at t3
   rw[s1] at r1
   rw[s2] at r2
   rw[s3] at r3
   rw[s4] at r4
   obtain ⟨y1,y2,y3,y4⟩:=set_same2 (G:=G) (c:=d) (n:={ n with es:=n.es.drop 4 }) (k:=k)
   obtain ⟨v1,v2,v3,v4⟩:=set_same2 (G:=G.set d { n with es:=n.es.drop 4 } k) (c:=c) (n:={ n with es:=n.es.take 4 }) (k:=k)
   obtain ⟨x1,x2,x3,x4⟩:=set_other2 (G:=G.set d { n with es:=n.es.drop 4 } k) (c:=c) (n:={ n with es:=n.es.take 4 }) (k:=k) z2
   rw[o4] at v1
   rw[o5] at v3
   rw[o6] at v4
   rw[y1] at x1
   rw[y2] at x2
   rw[y3] at x3
   rw[y4] at x4
   have hpw:=hf.asc
   unfold AscE at hpw
   rw[hsp,List.pairwise_append] at hpw
   have he0:e0∈n.es.drop 4:=by rw[hd0];exact List.mem_cons_self
   have hpb:=hpw.2.1
   rw[hd0] at hpb
   have hge:∀e∈n.es.drop 4,e0.1≤e.1:=fun e he=>by
    rw[hd0] at he
    rcases List.mem_cons.1 he with rfl|he
    ·exact Int.le_refl _
    ·exact Int.le_of_lt ((List.pairwise_cons.1 hpb).1 e he)
   refine ⟨rfl,_,c1,⟨rfl,rfl,rfl,a2.bn,rfl,rfl,fun r hr=>?_,fun r hr=>?_,fun r hr=>?_,fun u hu=>⟨?_,?_⟩⟩,⟨_,c2,rfl,t4,(fun q=>by cases q)⟩,?_,by simp,?_,?_,?_,?_,?_,?_,?_,?_,?_,?_,?_⟩
   ·rw[c3 r (hcr r hr),b3 r (hdr r hr),a7 r,nd_Zi (hcr r hr)]
   ·obtain ⟨q1,q2,q3,q4⟩:=set_other (G:=G.set d { n with es:=n.es.drop 4 } k) (c:=c) (n:={ n with es:=n.es.take 4 }) (k:=k) (hcr r hr)
    obtain ⟨w1,w2,w3,w4⟩:=set_other (G:=G) (c:=d) (n:={ n with es:=n.es.drop 4 }) (k:=k) (hdr r hr)
    exact ⟨q1.trans w1,q2.trans w2,q3.trans w3,q4.trans w4⟩
   ·obtain ⟨q1,q2,q3,q4⟩:=set_other2 (G:=G.set d { n with es:=n.es.drop 4 } k) (c:=c) (n:={ n with es:=n.es.take 4 }) (k:=k) (hcr r hr)
    obtain ⟨w1,w2,w3,w4⟩:=set_other2 (G:=G) (c:=d) (n:={ n with es:=n.es.drop 4 }) (k:=k) (hdr r hr)
    exact ⟨q1.trans w1,q2.trans w2,q3.trans w3,q4.trans w4⟩
   ·have:u≠d:=by rintro rfl;rw[z1] at hu;cases hu
    show (S.bl.setN d 1).count u=_
    rw[Mp.count_setN p1,if_neg this]
   ·have h1:u≠d:=by rintro rfl;rw[z1] at hu;cases hu
    have h2:u≠c:=by rintro rfl;rw[hz] at hu;cases hu
    show (if u=c then _ else if u=d then _ else _)=_
    rw[if_neg h2,if_neg h1]
   ·intro e he
    rw[List.mem_singleton] at he
    subst he
    refine ⟨_,(c3 d z2).trans b2,rfl,r4,fun y hy=>?_,fun y hy=>?_⟩
    ·rw[r2] at hy
     rcases aOf_mem.1 hy with ⟨e,he,rfl⟩| ⟨hll,e,he,hy⟩
     ·exact hge e he
     ·obtain ⟨m,-,-,-,hm⟩:=hf.kid hll e (List.mem_of_mem_drop he)
      have:=hm y hy
      have:=hge e he
      show e0.1≤y
      omega
    ·rw[t2] at hy
     rcases aOf_mem.1 hy with ⟨e,he,rfl⟩| ⟨hll,e,he,hy⟩
     ·exact hpw.2.2 e he e0 he0
     ·have hs:=hf.sep hll
      rw[hsp,List.pairwise_append] at hs
      exact hs.2.2 e he e0 he0 y hy
   ·rintro y (hy| ⟨e,he,hy⟩)
    ·rw[t2] at hy
     rcases aOf_mem.1 hy with ⟨e,he,rfl⟩| ⟨hll,e,he,hy⟩
     ·exact aOf_mem.2 (.inl ⟨e,List.mem_of_mem_take he,rfl⟩)
     ·exact aOf_mem.2 (.inr ⟨hll,e,List.mem_of_mem_take he,hy⟩)
    ·rw[List.mem_singleton] at he
     subst he
     rw[r2] at hy
     rcases aOf_mem.1 hy with ⟨e,he,rfl⟩| ⟨hll,e,he,hy⟩
     ·exact aOf_mem.2 (.inl ⟨e,List.mem_of_mem_drop he,rfl⟩)
     ·exact aOf_mem.2 (.inr ⟨hll,e,List.mem_of_mem_drop he,hy⟩)
   ·intro e he
    rw[List.mem_singleton] at he
    subst he
    exact aOf_mem.2 (.inl ⟨e0,List.mem_of_mem_drop he0,rfl⟩)
   ·rw[t1,List.flatMap_singleton,r1]
    exact (eOf_app G n _ _ hsp).symm
   ·have:=pOf_app G n _ _ hsp ht4 hr4
    simp only[List.map_cons,List.map_nil,List.sum_cons,List.sum_nil,List.length_cons,List.length_nil]
    rw[t3,r3]
    omega
   ·obtain ⟨w1,w2⟩:=tOf_app G n _ _ hsp
    simp only[List.map_cons,List.map_nil,List.sum_cons,List.sum_nil]
    rw[v1,x1,v2,x2,ht4,hr4,hlen]
    omega
   ·obtain ⟨w1,w2⟩:=tOf_app G n _ _ hsp
    simp only[List.map_cons,List.map_nil,List.sum_cons,List.sum_nil]
    rw[v3,x3,qOf_u,qOf_u,qOf_u,ht4,hr4,hlen]
    simp only[Nat.sub_self,Nat.mul_zero]
    omega
   ·obtain ⟨w1,w2⟩:=tOf_app G n _ _ hsp
    simp only[List.map_cons,List.map_nil,List.sum_cons,List.sum_nil]
    rw[v4,x4]
    omega
   ·intro e he
    rw[List.mem_singleton] at he
    subst he
    exact ⟨v2.trans ht4,x2.trans hr4⟩
   ·have:=count_free hp
    show S.bl.free≤(S.bl.setN d 1).free+1
    omega
   ·obtain ⟨e,l3,he⟩:=List.exists_cons_of_ne_nil (show n.es.take 4≠[] from fun q=>by rw[q] at ht4;cases ht4)
    exact ⟨e.1,by rw[t2];exact aOf_mem.2 (.inl ⟨e,by show e∈n.es.take 4;rw[he];exact List.mem_cons_self,rfl⟩)⟩
   ·intro e he
    rw[List.mem_singleton] at he
    subst he
    rw[r2]
    exact List.ne_nil_of_mem (aOf_mem.2 (.inl ⟨e0,by show e0∈n.es.drop 4;rw[hd0];exact List.mem_cons_self,rfl⟩))
end
end
section
def dv (k:Bool) (v:Nat):List Nat:=if k=true then [dOf v] else []
def oldD (k:Bool) (l:List (Int × Nat)) (key:Int):List Nat:=match lookE l key with|some w=>dv k w|none=>[]
section
variable {S:St} {Z:Nat→Bool} {rs pd:List Nat} {G:Gh} {b c:Nat} {n:Nd} {k:Bool} {key:Int} {v:Nat}
theorem free_mono {m m':Mp} (hl:m'.now.length=m.now.length) (h:∀u,m.isFree u=true→m'.isFree u=true):m.free≤m'.free:=by
 unfold Mp.free
 rw[hl]
 exact List.countP_mono_left (fun u _ hu=>h u hu)
theorem Inv.touched (h:Inv S Z (b :: rs) pd G) (hn:S.nd Z b=some n) {S1:St} (ht:S.touch b n (G.K b)=some (c,S1)):(∀u,Z u=true→S1.bl.count u=S.bl.count u)∧S.bl.free≤S1.bl.free+1:=by
 obtain ⟨q1,q2,q3⟩:=nd_count hn
 have hlt:=nd_lt hn
 unfold St.touch at ht
 split at ht
 ·injection ht with ht
  injection ht with ht1 ht2
  subst ht2
  exact ⟨fun _ _=>rfl,by omega⟩
 ·rename_i h0
  split at ht
  ·cases ht
  ·rename_i c' hp
   injection ht with ht
   injection ht with ht1 ht2
   subst ht1
   obtain ⟨p1,p2,p3⟩:=Mp.pick_some hp
   have hc1:∀u,(S.bl.setN c' 1).count u=if u=c' then 1 else S.bl.count u:=Mp.count_setN p1
   have hl1:(S.bl.setN c' 1).now.length=S.bl.now.length:=Mp.setN_len _ _ _
   have hcz:Z c'=false:=by
    rcases hz:Z c' with _|_
    ·rfl
    ·exact absurd p2 (h.zc c' hz)
   have hfr:=count_free hp
   by_cases h2:1<S.bl.count b
   ·rw[if_pos h2] at ht2
    subst ht2
    have hk:∀x∈kids n,x<(S.bl.setN c' 1).now.length:=fun x hx=>by
     obtain ⟨m,hm⟩:=kids_nd (h.nd b n hn).f hx
     rw[hl1]
     exact nd_lt hm
    obtain ⟨hl2,ho2⟩:=Mp.incs_len (kids n) (S.bl.setN c' 1)
    have hb2:b<((S.bl.setN c' 1).incs (kids n)).now.length:=by rw[hl2,hl1];exact hlt
    have hcn:∀u,(((S.bl.setN c' 1).incs (kids n)).dec b).count u=(S.bl.setN c' 1).count u+(kids n).count u - if u=b then 1 else 0:=fun u=>by
     rw[Mp.count_dec hb2,Mp.count_incs _ _ hk]
    refine ⟨fun u hu=>?_,?_⟩
    ·show (((S.bl.setN c' 1).incs (kids n)).dec b).count u=_
     have e1:u≠c':=by rintro rfl;rw[hcz] at hu;cases hu
     have e2:u≠b:=by rintro rfl;rw[q2] at hu;cases hu
     have e3:(kids n).count u=0:=List.count_eq_zero.2 (fun hx=>by
      obtain ⟨m,hm⟩:=kids_nd (h.nd b n hn).f hx
      rw[(nd_count hm).2.1] at hu
      cases hu)
     rw[hcn,hc1,if_neg e1,if_neg e2,e3]
     rfl
    ·have:=free_mono (m:=S.bl.setN c' 1) (m':=((S.bl.setN c' 1).incs (kids n)).dec b) (by unfold Mp.dec;rw[Mp.setN_len,hl2]) (fun u hu=>by
      unfold Mp.isFree at hu ⊢
      have h3:=of_decide_eq_true hu
      refine decide_eq_true ⟨?_,?_⟩
      ·rw[hcn,h3.1]
       have e3:(kids n).count u=0:=List.count_eq_zero.2 (fun hx=>by
        obtain ⟨m,hm⟩:=kids_nd (h.nd b n hn).f hx
        have h4:=(nd_count hm).1
        have h5:=h3.1
        rw[hc1] at h5
        split at h5
        ·cases h5
        ·exact h4 h5)
       rw[e3]
       omega
      ·have h4:=h3.2
       unfold Mp.was at h4 ⊢
       show ((S.bl.setN c' 1).incs (kids n)).old[u]?.getD 0=0
       rw[ho2]
       exact h4)
     show S.bl.free≤(((S.bl.setN c' 1).incs (kids n)).dec b).free+1
     omega
   ·rw[if_neg h2] at ht2
    subst ht2
    have hb2:b<(S.bl.setN c' 1).now.length:=by rw[hl1];exact hlt
    have hcn:∀u,((S.bl.setN c' 1).dec b).count u=(S.bl.setN c' 1).count u - if u=b then 1 else 0:=fun u=>Mp.count_dec hb2 u
    refine ⟨fun u hu=>?_,?_⟩
    ·show ((S.bl.setN c' 1).dec b).count u=_
     have e1:u≠c':=by rintro rfl;rw[hcz] at hu;cases hu
     have e2:u≠b:=by rintro rfl;rw[q2] at hu;cases hu
     rw[hcn,hc1,if_neg e1,if_neg e2]
     rfl
    ·have:=free_mono (m:=S.bl.setN c' 1) (m':=(S.bl.setN c' 1).dec b) (Mp.setN_len _ _ _) (fun u hu=>by
      unfold Mp.isFree at hu ⊢
      have h3:=of_decide_eq_true hu
      refine decide_eq_true ⟨?_,h3.2⟩
      rw[hcn,h3.1]
      omega)
     show S.bl.free≤((S.bl.setN c' 1).dec b).free+1
     omega
theorem touch_none (ht:S.touch b n k=none):S.bl.free=0:=by
 unfold St.touch at ht
 split at ht
 ·cases ht
 ·split at ht
  ·rename_i hp
   exact Mp.pick_none hp
  ·cases ht
theorem root_same {S1:St} {Z1:Nat→Bool} {rs1 pd1:List Nat} {G1:Gh} {r:Nat} (h:Inv S Z rs pd G) (h1:Inv S1 Z1 rs1 pd1 G1) (hl:S1.load r=S.load r) (hr:r∈rs) (hr1:r∈rs1):∃m,S.nd Z r=some m∧S1.nd Z1 r=some m:=by
 have a:∀{S:St} {Z:Nat→Bool} {rs pd:List Nat} {G:Gh},Inv S Z rs pd G→r∈rs→∃m,S.nd Z r=some m:=by
  intro S Z rs pd G h hr
  have hc:=List.count_pos_iff.2 hr
  rcases hz:Z r with _|_
  ·have h1:=h.ct r hz
   obtain ⟨n,hn⟩:=h.ld r (by omega) hz
   exact ⟨n,nd_of (by omega) hz hn⟩
  ·have:=(h.zz r hz).1
   omega
 obtain ⟨m,hm⟩:=a h hr
 obtain ⟨m1,hm1⟩:=a h1 hr1
 have e1:=(nd_count hm).2.2
 have e2:=(nd_count hm1).2.2
 rw[hl,e1] at e2
 injection e2 with e2
 subst e2
 exact ⟨m,hm,hm1⟩
theorem Inv.keys (h:Inv S Z rs pd G):∀(l u:Nat) (n:Nd),S.nd Z u=some n→n.lv=l→(∀e∈G.E u,e.1∈G.A u)∧(∀y∈G.A u,0≤y∧y<16777216)∧AscE (G.E u):=by
 intro l
 induction l with
 |zero=>
  intro u n hn hl
  have ho:=h.nd u n hn
  have e1:G.E u=n.es:=by rw[ho.e];unfold eOf;rw[if_pos hl]
  rw[e1,ho.a]
  refine ⟨fun e he=>aOf_mem.2 (.inl ⟨e,he,rfl⟩),fun y hy=>?_,ho.f.asc⟩
  rcases aOf_mem.1 hy with ⟨e,he,rfl⟩| ⟨h1,-⟩
  ·exact ho.f.rng e he
  ·exact absurd hl h1
 |succ l ih=>
  intro u n hn hl
  have ho:=h.nd u n hn
  have hl0:n.lv≠0:=by omega
  have e1:G.E u=n.es.flatMap (fun e=>G.E e.2):=by rw[ho.e];unfold eOf;rw[if_neg hl0]
  have hk:∀e∈n.es,(∀q∈G.E e.2,q.1∈G.A e.2)∧(∀y∈G.A e.2,0≤y∧y<16777216)∧AscE (G.E e.2):=fun e he=>by
   obtain ⟨m,hm,hm2,-⟩:=ho.f.kid hl0 e he
   exact ih e.2 m hm (by omega)
  rw[e1,ho.a]
  refine ⟨fun q hq=>?_,fun y hy=>?_,?_⟩
  ·obtain ⟨e,he,hq⟩:=List.mem_flatMap.1 hq
   exact aOf_mem.2 (.inr ⟨hl0,e,he,(hk e he).1 q hq⟩)
  ·rcases aOf_mem.1 hy with ⟨e,he,rfl⟩| ⟨-,e,he,hy⟩
   ·exact ho.f.rng e he
   ·exact (hk e he).2.1 y hy
  ·have key:∀l:List (Int × Nat),(∀e∈l,e∈n.es)→l.Pairwise (fun e e'=>∀y∈G.A e.2,y<e'.1)→AscE (l.flatMap (fun e=>G.E e.2)):=by
    intro l
    induction l with
    |nil=>intro _ _;exact List.Pairwise.nil
    |cons e l ihl=>
     intro hm hp
     rw[List.flatMap_cons]
     unfold AscE
     rw[List.pairwise_append]
     rw[List.pairwise_cons] at hp
     refine ⟨(hk e (hm e List.mem_cons_self)).2.2,ihl (fun q hq=>hm q (List.mem_cons_of_mem _ hq)) hp.2,fun a ha q hq=>?_⟩
     obtain ⟨e',he',hq⟩:=List.mem_flatMap.1 hq
     have h1:=hp.1 e' he' a.1 ((hk e (hm e List.mem_cons_self)).1 a ha)
     have h2:=(hk e' (hm e' (List.mem_cons_of_mem _ he'))).1 q hq
     obtain ⟨m,-,-,-,hm4⟩:=ho.f.kid hl0 e' (hm e' (List.mem_cons_of_mem _ he'))
     have:=hm4 q.1 h2
     omega
   exact key n.es (fun e he=>he) (ho.f.sep hl0)
end
end
end Go.Proofs.YtplhdjdkobddnaaGreat
