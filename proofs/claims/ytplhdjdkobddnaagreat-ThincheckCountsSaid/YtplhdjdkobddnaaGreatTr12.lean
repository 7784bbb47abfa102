/- CtF CtG -/
import Derived.Test.YtplhdjdkobddnaaGreatTr11
set_option linter.unusedVariables false
set_option maxRecDepth 100000
set_option maxHeartbeats 40000000
namespace Go.Proofs.YtplhdjdkobddnaaGreat
section
section
variable {S:St} {Z:Nat→Bool} {rs pd:List Nat} {G:Gh} {b c:Nat} {n:Nd} {k:Bool} {key:Int} {v:Nat}
theorem ins_at {l:List (Int × Nat)} (h:AscE l) (hne:l≠[]) (key:Int):∃pre e0 post x,l=pre++e0 :: post∧(findN l key).toNat=pre.length∧(if findN l key<0 then key else e0.1)=x∧x≤key∧x≤e0.1∧(x=key∨x=e0.1)∧(∀e∈pre,e.1<x)∧(pre≠[]→x=e0.1)∧(∀e∈post,key<e.1)∧(∀e∈post,e0.1<e.1):=by
 rcases find_split h key with ⟨h1,h2⟩| ⟨pre,e0,post,rfl,h1,h2,h3,h4⟩
 ·obtain ⟨e0,post,rfl⟩:=List.exists_cons_of_ne_nil hne
  have h3:=h2 e0 List.mem_cons_self
  refine ⟨[],e0,post,key,rfl,by rw[h1];rfl,by rw[h1,if_pos (by omega)],Int.le_refl _,by omega,.inl rfl,(fun e he=>by cases he),(fun e=>absurd rfl e),fun e he=>h2 e (List.mem_cons_of_mem _ he),(List.pairwise_cons.1 h).1⟩
 ·refine ⟨pre,e0,post,e0.1,rfl,by rw[h1];simp,by rw[h1,if_neg (by omega)],h2,Int.le_refl _,.inr rfl,h3,fun _=>rfl,h4,?_⟩
  unfold AscE at h
  rw[List.pairwise_append] at h
  exact (List.pairwise_cons.1 h.2.1).1
theorem take_len {α:Type} (pre:List α) (x:α) (post:List α):(pre++x :: post).take pre.length=pre∧(pre++x :: post).drop (pre.length+1)=post∧(pre++x :: post)[pre.length]? =some x:=by
 refine ⟨by simp,?_,by simp⟩
 rw[List.drop_append]
 simp
theorem mem_lt {α:Type} {R:α→α→Prop} {pre post:List α} {x:α} (h:(pre++x :: post).Pairwise R):(∀a∈pre,R a x)∧(∀a∈post,R x a)∧pre.Pairwise R∧post.Pairwise R∧∀a∈pre,∀q∈post,R a q:=by
 rw[List.pairwise_append,List.pairwise_cons] at h
 exact ⟨fun a ha=>h.2.2 a ha x List.mem_cons_self,h.2.1.1,h.1,h.2.1.2,fun a ha q hq=>h.2.2 a ha q (List.mem_cons_of_mem _ hq)⟩
theorem dats_ins {l:List (Int × Nat)} (h:AscE l) (hl:n.lv=0) (he:n.es=l) (d:Nat):(dats k { n with es:=insE l key v }).count d+(oldD k l key).count d=(dats k n).count d+(dv k v).count d:=by
 cases k
 ·unfold dats oldD dv
  simp
  split <;> rfl
 ·unfold dats oldD dv
  rw[if_pos ⟨hl,rfl⟩,if_pos ⟨hl,rfl⟩]
  dsimp only
  rw[he]
  rcases lookE_split h key with ⟨h1,h2⟩| ⟨w,pre,post,h1,rfl,h3,h4⟩
  ·rw[h1]
   unfold insE
   have e2:l.filter (fun e=>decide (key<e.1))=l.filter (fun e=>!decide (e.1<key)):=by
    refine List.filter_congr (fun e he=>?_)
    have:=h2 e he
    by_cases q:key<e.1 <;> simp[q] <;> omega
   have hp:=(List.filter_append_perm (fun e:Int × Nat=>decide (e.1<key)) l)
   have hq:=((hp.map (fun e=>dOf e.2)).count_eq d)
   rw[e2,List.map_append,List.map_cons,List.count_append,List.count_cons]
   rw[List.map_append,List.count_append] at hq
   simp only[List.count_nil,if_true,List.count_cons]
   omega
  ·rw[h1]
   have:=insE_app (v:=v) (mid:=[(key,w)]) h3 h4
   simp only[List.append_assoc,List.singleton_append] at this
   rw[this]
   have h5:insE [(key,w)] key v= [(key,v)]:=by unfold insE;simp
   rw[h5]
   simp only[List.map_append,List.map_cons,List.count_append,List.count_cons,List.count_nil,List.cons_append,List.nil_append,if_true]
   omega
theorem ins_ok (hkr:0≤key∧key<16777216):∀(l:Nat) (S:St) (Z:Nat→Bool) (rs pd:List Nat) (G:Gh) (b:Nat) (n:Nd),Inv S Z (b :: rs) (dv k v++pd) G→S.nd Z b=some n→n.lv=l→G.K b=k→
  match S.ins k key v l b n with
  |none=>S.bl.free<2 * (l+1)
  |some (d,ex,S')=>∃G',FinP S S' Z rs (oldD k (G.E b) key++pd) G G' l k d ex (insE (G.E b) key v) (key :: G.A b) (G.P b+1) (2 * (l+1)) n.es.length (G.T b+4 ^ l * G.L b+1) (G.Q b) (G.U b):=by
 intro l
 induction l with
 |zero=>
  intro S Z rs pd G b n h hn hl hK
  have ho:=h.nd b n hn
  have eE:G.E b=n.es:=by rw[ho.e];unfold eOf;rw[if_pos hl]
  have eP:G.P b=n.es.length - 4:=by rw[ho.p];unfold pOf;rw[if_pos hl,hl];omega
  unfold St.ins
  rcases ht:S.touch b n k with _| ⟨c,S1⟩
  ·have:=touch_none ht
   dsimp only
   omega
  ·dsimp only
   rw[←hK] at ht
   obtain ⟨o1,o2,o3,o4,o5,o6⟩:=h.open hn ht
   obtain ⟨t1,t2⟩:=h.touched hn ht
   rw[hK] at o1
   have hkn:kids n= []:=by unfold kids;rw[if_pos hl]
   have hk2:kids { n with es:=putN n.es key v } = []:=by unfold kids;rw[if_pos hl]
   rw[hkn] at o1
   have hasc:=ho.f.asc
   have hpt:=putN_eq hasc key v
   have i1:=o1.perm (rs':=kids { n with es:=putN n.es key v } ++rs) (pd':=dats k { n with es:=putN n.es key v } ++(oldD k n.es key++pd)) (fun u=>by rw[hk2]) (fun d=>by
    have:=dats_ins (k:=k) (v:=v) (key:=key) hasc hl rfl d
    rw[hpt]
    simp only[List.count_append]
    omega)
   have hf:NdF (S1.nd (Zi Z c)) G k { n with es:=putN n.es key v }:=by
    refine ⟨ho.f.lv,by rw[hpt];exact insE_asc hasc,fun e he=>?_,fun e=>absurd hl e,fun e=>absurd hl e,fun e=>absurd hl e,fun e=>absurd hl e⟩
    rw[hpt] at he
    rcases insE_mem he with rfl|he
    ·exact hkr
    ·exact ho.f.rng e he
   have hlen:=insE_len (key:=key) (v:=v) hasc
   have hl7:=ho.ln
   have hfin:=fin_ok (n:={ n with es:=putN n.es key v }) i1 o5 o3 hf (by show (putN n.es key v).length≤8;rw[hpt];split at hlen <;> omega) (by
    show putN n.es key v≠[]
    rw[hpt]
    unfold insE
    simp)
   rcases hfq:S1.fin c { n with es:=putN n.es key v } with _| ⟨d,ex,S2⟩
   ·rw[hfq] at hfin
    dsimp only at hfin ⊢
    omega
   ·rw[hfq] at hfin
    dsimp only at hfin ⊢
    obtain ⟨rfl,G',hP⟩:=hfin
    have e1:eOf G { n with es:=putN n.es key v } =insE (G.E b) key v:=by unfold eOf;rw[if_pos hl,eE];exact hpt
    have hrs:∀r∈rs,r≠d:=fun r hr e=>by
     have:=(o1.zz d (Zi_self Z d)).1
     rw[List.count_append] at this
     have h2:=List.count_pos_iff.2 (e▸hr)
     omega
    refine ⟨G',?_,?_,?_,?_,hP.e1,?_,?_,?_,?_,?_,?_,?_,hP.four,?_,hP.na,hP.nx⟩
    ·rw[eE];exact hP.inv
    ·refine ⟨hP.keep.dk.trans o2.dk,hP.keep.sq.trans o2.sq,hP.keep.bo.trans o2.bo,hP.keep.bn.trans o2.bn,hP.keep.dl.trans o2.dl,hP.keep.do_.trans o2.do_,fun r hr=>?_,hP.keep.gh,hP.keep.gh2,fun u hu=>?_⟩
     ·rw[hP.keep.nd r hr]
      obtain ⟨m,m1,m2⟩:=root_same h o1 (o2.load r) (List.mem_cons_of_mem _ hr) (by exact hr)
      rw[m1,←m2,nd_Zi (hrs r hr)]
     ·obtain ⟨q1,q2⟩:=hP.keep.zk u hu
      exact ⟨q1.trans (t1 u hu),q2.trans (by rw[o2.ch])⟩
    ·obtain ⟨m,m1,m2,m3,m4⟩:=hP.nc
     refine ⟨m,m1,m2.trans hl,m3,fun q=>?_⟩
     have:=m4 q
     change (putN n.es key v).length≤_ at this
     rw[hpt] at this
     split at hlen <;> omega
    ·rw[←hl];exact hP.ne
    ·intro y hy
     rcases aOf_mem.1 (hP.sub y hy) with ⟨e,he,rfl⟩| ⟨h1,-⟩
     ·change e∈putN n.es key v at he
      rw[hpt] at he
      rcases insE_mem he with rfl|he
      ·exact List.mem_cons_self
      ·exact List.mem_cons_of_mem _ (by rw[ho.a];exact aOf_mem.2 (.inl ⟨e,he,rfl⟩))
     ·exact absurd hl h1
    ·intro e he
     rcases aOf_mem.1 (hP.key e he) with ⟨e',he',q⟩| ⟨h1,-⟩
     ·change e'∈putN n.es key v at he'
      rw[hpt] at he'
      rw[q]
      rcases insE_mem he' with rfl|he'
      ·exact List.mem_cons_self
      ·exact List.mem_cons_of_mem _ (by rw[ho.a];exact aOf_mem.2 (.inl ⟨e',he',rfl⟩))
     ·exact absurd hl h1
    ·rw[hP.con];exact e1
    ·have:=hP.pot
     have e2:pOf G { n with es:=putN n.es key v } =(putN n.es key v).length - 4:=by unfold pOf;rw[if_pos hl];show 4 ^ n.lv * ((putN n.es key v).length - 4)+0=_;rw[hl];omega
     rw[e2,hpt] at this
     rw[hl] at this
     split at hlen <;> omega
    ·have:=hP.pot2
     have e2:tOf G { n with es:=putN n.es key v } =0:=if_pos hl
     have e3:G.T b=0:=by rw[ho.t];exact if_pos hl
     rw[e2] at this
     change _≤0+4 ^ n.lv * (putN n.es key v).length at this
     rw[hpt,hl] at this
     rw[e3,ho.l]
     split at hlen <;> omega
    ·have:=hP.potQ
     have e2:qOf G { n with es:=putN n.es key v } =4 - (putN n.es key v).length:=by unfold qOf;rw[if_pos hl];show 4 ^ n.lv * (4 - (putN n.es key v).length)+0=_;rw[hl];omega
     have e3:G.Q b=4 - n.es.length:=by rw[ho.q];unfold qOf;rw[if_pos hl,hl];omega
     rw[e2,hpt] at this
     rw[e3]
     split at hlen <;> omega
    ·have:=hP.potU
     have e2:uOf G { n with es:=putN n.es key v } =0:=if_pos hl
     omega
    ·have:=hP.fr
     omega
 |succ l ih=>
  intro S Z rs pd G b n h hn hl hK
  have ho:=h.nd b n hn
  have hl0:n.lv≠0:=by omega
  have hne:=ho.f.ne hl0
  have hasc:=ho.f.asc
  obtain ⟨pre,e0,post,x,hes,hi,hx,hx1,hx2,hx3,hx4,hx5,hx6,hx7⟩:=ins_at hasc hne key
  obtain ⟨g1,g2,g3⟩:=take_len pre e0 post
  have hget:n.es[(findN n.es key).toNat]?.getD (0,0)=e0:=by rw[hi,hes,g3];rfl
  have htk:n.es.take (findN n.es key).toNat=pre:=by rw[hi,hes,g1]
  have hdr:n.es.drop ((findN n.es key).toNat+1)=post:=by rw[hi,hes,g2]
  have hee:e0∈n.es:=by rw[hes];simp
  have hpe:∀e∈pre,e∈n.es:=fun e he=>by rw[hes];exact List.mem_append_left _ he
  have hqe:∀e∈post,e∈n.es:=fun e he=>by rw[hes];exact List.mem_append_right _ (List.mem_cons_of_mem _ he)
  obtain ⟨m,hm1,hm2,hm3,hm4⟩:=ho.f.kid hl0 e0 hee
  rw[hK] at hm3
  have hsep:=ho.f.sep hl0
  rw[hes] at hsep
  obtain ⟨sp1,sp2,sp3,sp4,sp5⟩:=mem_lt hsep
  have hasc2:=hasc
  unfold AscE at hasc2
  rw[hes] at hasc2
  obtain ⟨as1,as2,as3,as4,as5⟩:=mem_lt hasc2
  have hsx:∀e∈pre,∀y∈G.A e.2,y<x:=fun e he y hy=>by
   have h1:=hx5 (List.ne_nil_of_mem he)
   rw[h1]
   exact sp1 e he y hy
  unfold St.ins
  rcases ht:S.touch b n k with _| ⟨c,S1⟩
  ·have:=touch_none ht
   dsimp only
   omega
  ·dsimp only
   rw[hget,hx,htk,hdr]
   rw[←hK] at ht
   obtain ⟨o1,o2,o3,o4,o5,o6⟩:=h.open hn ht
   obtain ⟨t1,t2⟩:=h.touched hn ht
   have hdn:dats (G.K b) n= []:=by unfold dats;rw[if_neg (fun e=>hl0 e.1)]
   have hkn:kids n=pre.map Prod.snd++e0.2 :: post.map Prod.snd:=by unfold kids;rw[if_neg hl0,hes,List.map_append,List.map_cons]
   rw[hdn] at o1
   have hzc:=o1.zz c (Zi_self Z c)
   rw[List.count_append] at hzc
   have hrs:∀r∈rs,r≠c:=fun r hr e=>by
    have h2:=List.count_pos_iff.2 (e▸hr)
    omega
   have hkc:∀u∈kids n,u≠c:=fun u hu e=>by
    have h2:=List.count_pos_iff.2 (e▸hu)
    omega
   have i1:=o1.perm (rs':=e0.2 :: (pre.map Prod.snd++post.map Prod.snd++rs)) (pd':=dv k v++pd) (fun u=>by rw[hkn];simp only[List.count_append,List.count_cons];omega) (fun d=>by simp)
   have hkeep:∀u∈kids n,S1.nd (Zi Z c) u=S.nd Z u:=fun u hu=>by
    have hc:=List.count_pos_iff.2 hu
    obtain ⟨q,hq⟩:=kids_nd ho.f hu
    have h1:=o1.ct u (by rw[Zi_ne (hkc u hu)];exact (nd_count hq).2.1)
    rw[List.count_append] at h1
    rw[hq]
    exact nd_of (by omega) (by rw[Zi_ne (hkc u hu)];exact (nd_count hq).2.1) (by rw[o2.load];exact (nd_count hq).2.2)
   have hm1':S1.nd (Zi Z c) e0.2=some m:=by rw[hkeep _ (kid_mem hl0 hee)];exact hm1
   have hld:S1.load e0.2=some m:=(nd_count hm1').2.2
   rw[hld]
   dsimp only
   have hih:=ih S1 (Zi Z c) (pre.map Prod.snd++post.map Prod.snd++rs) pd G e0.2 m i1 hm1' (by omega) hm3
   rcases hiq:S1.ins k key v l e0.2 m with _| ⟨d,ex,S2⟩
   ·rw[hiq] at hih
    dsimp only at hih ⊢
    omega
   ·rw[hiq] at hih
    dsimp only at hih ⊢
    obtain ⟨G2,hP⟩:=hih
    have hE0:=h.keys m.lv e0.2 m hm1 rfl
    have hA:∀y,(y=key∨y∈G.A e0.2)→x≤y∧∀e∈post,y<e.1:=fun y hy=>by
     rcases hy with rfl|hy
     ·exact ⟨hx1,hx6⟩
     ·exact ⟨Int.le_trans hx2 (hm4 y hy),fun e he=>sp2 e he y hy⟩
    have hAm:∀y∈key :: G.A e0.2,y=key∨y∈G.A e0.2:=fun y hy=>List.mem_cons.1 hy
    have hdA:∀y∈G2.A d,x≤y∧∀e∈post,y<e.1:=fun y hy=>hA y (hAm y (hP.sub y (.inl hy)))
    have hxA:∀q∈ex,∀y∈G2.A q.2,x≤y∧∀e∈post,y<e.1:=fun q hq y hy=>hA y (hAm y (hP.sub y (.inr ⟨q,hq,hy⟩)))
    have hxk:∀q∈ex,x<q.1∧(∀e∈post,q.1<e.1)∧0≤q.1∧q.1<16777216:=fun q hq=>by
     obtain ⟨y,hy⟩:=hP.na
     obtain ⟨-,-,-,-,-,h5⟩:=hP.ne q hq
     have h6:=h5 y hy
     have h7:=(hdA y hy).1
     have h8:=hAm _ (hP.key q hq)
     refine ⟨by omega,(hA _ h8).2,?_⟩
     rcases h8 with h8|h8
     ·rw[h8];exact hkr
     ·exact hE0.2.1 _ h8
    have hex1:∀q∈ex,∀q'∈ex,q=q':=fun q hq q' hq'=>by
     have:=hP.e1
     rcases ex with _| ⟨a,_| ⟨a2,t⟩⟩
     ·cases hq
     ·rw[List.mem_singleton] at hq hq';rw[hq,hq']
     ·simp at this
    have hxr:0≤x∧x<16777216:=by
     rcases hx3 with e|e
     ·rw[e];exact hkr
     ·rw[e];exact ho.f.rng e0 hee
    have hlab:∀e∈pre++post,S2.nd (Zi Z c) e.2=S.nd Z e.2∧G2.E e.2=G.E e.2∧G2.A e.2=G.A e.2∧G2.P e.2=G.P e.2∧G2.K e.2=G.K e.2∧G2.Q e.2=G.Q e.2:=fun e he=>by
     have hen:e∈n.es:=(List.mem_append.1 he).elim (hpe e) (hqe e)
     have hr:e.2∈pre.map Prod.snd++post.map Prod.snd++rs:=by
      refine List.mem_append_left _ ?_
      rw[←List.map_append]
      exact List.mem_map_of_mem he
     obtain ⟨y1,y2,y3,y4⟩:=hP.keep.gh _ hr
     exact ⟨(hP.keep.nd _ hr).trans (hkeep _ (kid_mem hl0 hen)),y1,y2,y3,y4,(hP.keep.gh2 _ hr).2.2.1⟩
    have hnl:n.es.length=pre.length+post.length+1:=by rw[hes];simp;omega
    have hexl:=hP.e1
    have hl7:=ho.ln
    have hk2:kids { n with es:=pre++(x,d) :: (ex++post) } =pre.map Prod.snd++d :: (ex.map Prod.snd++post.map Prod.snd):=by
     unfold kids
     rw[if_neg hl0]
     simp
    have hd2:dats k { n with es:=pre++(x,d) :: (ex++post) } = []:=by unfold dats;rw[if_neg (fun e=>hl0 e.1)]
    have i2:=hP.inv.perm (rs':=kids { n with es:=pre++(x,d) :: (ex++post) } ++rs) (pd':=dats k { n with es:=pre++(x,d) :: (ex++post) } ++(oldD k (G.E e0.2) key++pd))
     (fun u=>by rw[hk2];simp only[List.count_append,List.count_cons];omega) (fun q=>by rw[hd2];rfl)
    have hmem:∀e∈pre++(x,d) :: (ex++post),e∈pre∨e=(x,d)∨e∈ex∨e∈post:=fun e he=>by
     rcases List.mem_append.1 he with he|he
     ·exact .inl he
     ·rcases List.mem_cons.1 he with he|he
      ·exact .inr (.inl he)
      ·exact .inr (.inr (List.mem_append.1 he))
    have hf:NdF (S2.nd (Zi Z c)) G2 k { n with es:=pre++(x,d) :: (ex++post) }:=by
     refine ⟨ho.f.lv,?_,fun e he=>?_,fun _=>by simp,fun _ e he=>?_,fun _=>?_,fun _ e he=>?_⟩
     ·show List.Pairwise _ _
      rw[List.pairwise_append,List.pairwise_cons,List.pairwise_append]
      refine ⟨as3,⟨fun e he=>?_,?_,as4,fun a ha q hq=>(hxk a ha).2.1 q hq⟩,fun a ha q hq=>?_⟩
      ·rcases List.mem_append.1 he with he|he
       ·exact (hxk e he).1
       ·have:=hx6 e he
        show x<e.1
        omega
      ·rcases ex with _| ⟨a,_| ⟨a2,t⟩⟩
       ·exact List.Pairwise.nil
       ·exact List.pairwise_singleton _ _
       ·simp at hexl
      ·have h1:=hx4 a ha
       rcases List.mem_cons.1 hq with rfl|hq
       ·exact h1
       ·rcases List.mem_append.1 hq with hq|hq
        ·have:=(hxk q hq).1;omega
        ·exact as5 a ha q hq
     ·rcases hmem e he with he|rfl|he|he
      ·exact ho.f.rng e (hpe e he)
      ·exact hxr
      ·exact (hxk e he).2.2
      ·exact ho.f.rng e (hqe e he)
     ·rcases hmem e he with he|rfl|he|he
      ·obtain ⟨m',q1,q2,q3,q4⟩:=ho.f.kid hl0 e (hpe e he)
       obtain ⟨w1,w2,w3,w4,w5,-⟩:=hlab e (List.mem_append_left _ he)
       exact ⟨m',w1.trans q1,q2,by rw[w5,q3,hK],by rw[w3];exact q4⟩
      ·obtain ⟨m',q1,q2,q3,-⟩:=hP.nc
       exact ⟨m',q1,by show m'.lv+1=n.lv;omega,q3,fun y hy=>(hdA y hy).1⟩
      ·obtain ⟨m',q1,q2,q3,q4,-⟩:=hP.ne e he
       exact ⟨m',q1,by show m'.lv+1=n.lv;omega,q3,q4⟩
      ·obtain ⟨m',q1,q2,q3,q4⟩:=ho.f.kid hl0 e (hqe e he)
       obtain ⟨w1,w2,w3,w4,w5,-⟩:=hlab e (List.mem_append_right _ he)
       exact ⟨m',w1.trans q1,q2,by rw[w5,q3,hK],by rw[w3];exact q4⟩
     ·show List.Pairwise _ _
      rw[List.pairwise_append,List.pairwise_cons,List.pairwise_append]
      refine ⟨sp3.imp_of_mem (fun {e e'} he _ hr y hy=>hr y (by rw[(hlab e (List.mem_append_left _ he)).2.2.1] at hy;exact hy)),⟨fun e he y hy=>?_,?_,sp4.imp_of_mem (fun {e e'} he _ hr y hy=>hr y (by rw[(hlab e (List.mem_append_right _ he)).2.2.1] at hy;exact hy)),fun a ha q hq y hy=>(hxA a ha y hy).2 q hq⟩,fun a ha q hq y hy=>?_⟩
      ·rcases List.mem_append.1 he with he|he
       ·exact (hP.ne e he).choose_spec.2.2.2.2 y hy
       ·exact (hdA y hy).2 e he
      ·rcases ex with _| ⟨a,_| ⟨a2,t⟩⟩
       ·exact List.Pairwise.nil
       ·exact List.pairwise_singleton _ _
       ·simp at hexl
      ·rw[(hlab a (List.mem_append_left _ ha)).2.2.1] at hy
       rcases List.mem_cons.1 hq with rfl|hq
       ·exact hsx a ha y hy
       ·rcases List.mem_append.1 hq with hq|hq
        ·have:=(hxk q hq).1
         have:=hsx a ha y hy
         omega
        ·exact sp5 a ha q hq y hy
     ·rcases hmem e he with he|rfl|he|he
      ·rw[(hlab e (List.mem_append_left _ he)).2.2.1]
       exact ho.f.kn hl0 e (hpe e he)
      ·obtain ⟨y,hy⟩:=hP.na
       exact List.ne_nil_of_mem hy
      ·exact hP.nx e he
      ·rw[(hlab e (List.mem_append_right _ he)).2.2.1]
       exact ho.f.kn hl0 e (hqe e he)
    have hc1:S2.bl.count c=1:=by rw[(hP.keep.zk c (Zi_self Z c)).1];exact o3
    have hfin:=fin_ok (n:={ n with es:=pre++(x,d) :: (ex++post) }) i2 o5 hc1 hf (by show (pre++(x,d) :: (ex++post)).length≤8;simp;omega) (by show pre++(x,d) :: (ex++post)≠[];simp)
    rcases hfq:S2.fin c { n with es:=pre++(x,d) :: (ex++post) } with _| ⟨c',ex',S3⟩
    ·rw[hfq] at hfin
     dsimp only at hfin ⊢
     have:=hP.fr
     omega
    ·rw[hfq] at hfin
     dsimp only at hfin ⊢
     obtain ⟨rfl,G3,hQ⟩:=hfin
     have hkE:∀e∈n.es,∀q∈G.E e.2,q.1∈G.A e.2:=fun e he q hq=>by
      obtain ⟨m',q1,q2,-⟩:=ho.f.kid hl0 e he
      exact (h.keys m'.lv e.2 m' q1 rfl).1 q hq
     have hpre:∀q∈pre.flatMap (fun e=>G.E e.2),q.1<key:=fun q hq=>by
      obtain ⟨e,he,hq⟩:=List.mem_flatMap.1 hq
      have:=hsx e he q.1 (hkE e (hpe e he) q hq)
      omega
     have hpost:∀q∈post.flatMap (fun e=>G.E e.2),key<q.1:=fun q hq=>by
      obtain ⟨e,he,hq⟩:=List.mem_flatMap.1 hq
      obtain ⟨m',-,-,-,q4⟩:=ho.f.kid hl0 e (hqe e he)
      have h1:=q4 q.1 (hkE e (hqe e he) q hq)
      have h2:=hx6 e he
      omega
     have hEb:G.E b=pre.flatMap (fun e=>G.E e.2)++G.E e0.2++post.flatMap (fun e=>G.E e.2):=by
      rw[ho.e]
      unfold eOf
      rw[if_neg hl0,hes]
      simp
     have hold:oldD k (G.E b) key=oldD k (G.E e0.2) key:=by
      unfold oldD
      rw[hEb,lookE_app hpre hpost]
     have hAb:∀y,y=key∨y∈G.A e0.2→y∈key :: G.A b:=fun y hy=>by
      rcases hy with rfl|hy
      ·exact List.mem_cons_self
      ·exact List.mem_cons_of_mem _ (by rw[ho.a];exact aOf_mem.2 (.inr ⟨hl0,e0,hee,hy⟩))
     have hkb:∀e∈n.es,e.1∈key :: G.A b:=fun e he=>List.mem_cons_of_mem _ (by rw[ho.a];exact aOf_mem.2 (.inl ⟨e,he,rfl⟩))
     have hsub:∀y∈aOf G2 { n with es:=pre++(x,d) :: (ex++post) },y∈key :: G.A b:=fun y hy=>by
      rcases aOf_mem.1 hy with ⟨e,he,rfl⟩| ⟨-,e,he,hy⟩
      ·rcases hmem e he with he|rfl|he|he
       ·exact hkb e (hpe e he)
       ·rcases hx3 with e|e
        ·show x∈_
         rw[e];exact List.mem_cons_self
        ·show x∈_
         rw[e];exact hkb e0 hee
       ·exact hAb _ (hAm _ (hP.key e he))
       ·exact hkb e (hqe e he)
      ·rcases hmem e he with he|rfl|he|he
       ·rw[(hlab e (List.mem_append_left _ he)).2.2.1] at hy
        exact List.mem_cons_of_mem _ (by rw[ho.a];exact aOf_mem.2 (.inr ⟨hl0,e,hpe e he,hy⟩))
       ·exact hAb y (hAm y (hP.sub y (.inl hy)))
       ·exact hAb y (hAm y (hP.sub y (.inr ⟨e,he,hy⟩)))
       ·rw[(hlab e (List.mem_append_right _ he)).2.2.1] at hy
        exact List.mem_cons_of_mem _ (by rw[ho.a];exact aOf_mem.2 (.inr ⟨hl0,e,hqe e he,hy⟩))
     have hsP:tOf G2 { n with es:=pre++(x,d) :: (ex++post) } =(pre.map (fun e=>G.P e.2)).sum+(G2.P d+((ex.map (fun e=>G2.P e.2)).sum+(post.map (fun e=>G.P e.2)).sum)):=by
      unfold tOf
      rw[if_neg hl0]
      dsimp only
      rw[List.map_append,List.map_cons,List.map_append,List.sum_append,List.sum_cons,List.sum_append]
      rw[List.map_congr_left (l:=pre) (fun e he=>(hlab e (List.mem_append_left _ he)).2.2.2.1),List.map_congr_left (l:=post) (fun e he=>(hlab e (List.mem_append_right _ he)).2.2.2.1)]
     have hsQ:uOf G2 { n with es:=pre++(x,d) :: (ex++post) } =(pre.map (fun e=>G.Q e.2)).sum+(G2.Q d+((ex.map (fun e=>G2.Q e.2)).sum+(post.map (fun e=>G.Q e.2)).sum)):=by
      unfold uOf
      rw[if_neg hl0]
      dsimp only
      rw[List.map_append,List.map_cons,List.map_append,List.sum_append,List.sum_cons,List.sum_append]
      rw[List.map_congr_left (l:=pre) (fun e he=>(hlab e (List.mem_append_left _ he)).2.2.2.2.2),List.map_congr_left (l:=post) (fun e he=>(hlab e (List.mem_append_right _ he)).2.2.2.2.2)]
     have hbP:G.T b=(pre.map (fun e=>G.P e.2)).sum+(G.P e0.2+(post.map (fun e=>G.P e.2)).sum):=by
      rw[ho.t]
      unfold tOf
      rw[if_neg hl0,hes,List.map_append,List.map_cons,List.sum_append,List.sum_cons]
     have hbQ:G.U b=(pre.map (fun e=>G.Q e.2)).sum+(G.Q e0.2+(post.map (fun e=>G.Q e.2)).sum):=by
      rw[ho.w]
      unfold uOf
      rw[if_neg hl0,hes,List.map_append,List.map_cons,List.sum_append,List.sum_cons]
     have hn2l:(pre++(x,d) :: (ex++post)).length=n.es.length+ex.length:=by simp;omega
     refine ⟨G3,?_,?_,?_,?_,hQ.e1,fun y hy=>hsub y (hQ.sub y hy),fun e he=>hsub _ (hQ.key e he),?_,?_,?_,?_,?_,hQ.four,?_,hQ.na,hQ.nx⟩
     ·rw[hold];exact hQ.inv
     ·refine ⟨hQ.keep.dk.trans (hP.keep.dk.trans o2.dk),hQ.keep.sq.trans (hP.keep.sq.trans o2.sq),hQ.keep.bo.trans (hP.keep.bo.trans o2.bo),hQ.keep.bn.trans (hP.keep.bn.trans o2.bn),hQ.keep.dl.trans (hP.keep.dl.trans o2.dl),hQ.keep.do_.trans (hP.keep.do_.trans o2.do_),fun r hr=>?_,fun r hr=>?_,fun r hr=>?_,fun u hu=>?_⟩
      ·rw[hQ.keep.nd r hr,←nd_Zi (hrs r hr),hP.keep.nd r (List.mem_append_right _ hr)]
       obtain ⟨m',m1,m2⟩:=root_same h o1 (o2.load r) (List.mem_cons_of_mem _ hr) (List.mem_append_right _ hr)
       rw[m1,m2]
      ·obtain ⟨q1,q2,q3,q4⟩:=hQ.keep.gh r hr
       obtain ⟨w1,w2,w3,w4⟩:=hP.keep.gh r (List.mem_append_right _ hr)
       exact ⟨q1.trans w1,q2.trans w2,q3.trans w3,q4.trans w4⟩
      ·obtain ⟨q1,q2,q3,q4⟩:=hQ.keep.gh2 r hr
       obtain ⟨w1,w2,w3,w4⟩:=hP.keep.gh2 r (List.mem_append_right _ hr)
       exact ⟨q1.trans w1,q2.trans w2,q3.trans w3,q4.trans w4⟩
      ·have huc:u≠c':=by rintro rfl;rw[o5] at hu;cases hu
       obtain ⟨q1,q2⟩:=hQ.keep.zk u hu
       obtain ⟨w1,w2⟩:=hP.keep.zk u (by rw[Zi_ne huc];exact hu)
       exact ⟨q1.trans (w1.trans (t1 u hu)),q2.trans (w2.trans (by rw[o2.ch]))⟩
     ·obtain ⟨m',q1,q2,q3,q4⟩:=hQ.nc
      refine ⟨m',q1,q2.trans hl,q3,fun q=>?_⟩
      have:=q4 q
      change (pre++(x,d) :: (ex++post)).length≤_ at this
      simp at this
      omega
     ·rw[←hl];exact hQ.ne
     ·rw[hQ.con,hEb,insE_app hpre hpost,←hP.con]
      unfold eOf
      rw[if_neg hl0]
      simp only[List.flatMap_append,List.flatMap_cons]
      rw[flatMap_congr' (l:=pre) (fun e he=>(hlab e (List.mem_append_left _ he)).2.1),flatMap_congr' (l:=post) (fun e he=>(hlab e (List.mem_append_right _ he)).2.1)]
      simp
     ·have h1:=hQ.pot
      have h2:=hP.pot
      have e1:pOf G2 { n with es:=pre++(x,d) :: (ex++post) } =4 ^ n.lv * ((pre.length+(ex.length+post.length+1)) - 4)+((pre.map (fun e=>G.P e.2)).sum+(G2.P d+((ex.map (fun e=>G2.P e.2)).sum+(post.map (fun e=>G.P e.2)).sum))):=by
       unfold pOf
       rw[if_neg hl0]
       dsimp only
       rw[List.map_append,List.map_cons,List.map_append,List.sum_append,List.sum_cons,List.sum_append,List.length_append,List.length_cons,List.length_append]
       rw[List.map_congr_left (l:=pre) (fun e he=>(hlab e (List.mem_append_left _ he)).2.2.2.1),List.map_congr_left (l:=post) (fun e he=>(hlab e (List.mem_append_right _ he)).2.2.2.1)]
      have e2:G.P b=4 ^ n.lv * (n.es.length - 4)+((pre.map (fun e=>G.P e.2)).sum+(G.P e0.2+(post.map (fun e=>G.P e.2)).sum)):=by
       rw[ho.p]
       unfold pOf
       rw[if_neg hl0]
       congr 1
       rw[hes,List.map_append,List.map_cons,List.sum_append,List.sum_cons]
      rw[e1] at h1
      rw[e2,←hl]
      rw[hl] at h1 ⊢
      have h3:4 ^ (l+1) * (pre.length+(ex.length+post.length+1) - 4)≤4 ^ (l+1) * (n.es.length - 4)+ex.length * 4 ^ (l+1):=by
       rw[Nat.mul_comm ex.length,←Nat.mul_add]
       exact Nat.mul_le_mul_left _ (by omega)
      omega
     ·have h1:=hQ.pot2
      have h2:=hP.pot
      rw[hsP] at h1
      change _≤_+4 ^ n.lv * (pre++(x,d) :: (ex++post)).length at h1
      rw[hn2l,hl] at h1
      rw[hbP,ho.l]
      have h3:4 ^ (l+1) * ex.length=ex.length * 4 ^ (l+1):=Nat.mul_comm _ _
      have h5:4 ^ (l+1) * (n.es.length+ex.length)=4 ^ (l+1) * n.es.length+4 ^ (l+1) * ex.length:=Nat.mul_add _ _ _
      omega
     ·have h1:=hQ.potQ
      have h2:=hP.potQ
      rw[qOf_u,hsQ] at h1
      change _≤4 ^ n.lv * (4 - (pre++(x,d) :: (ex++post)).length)+_ at h1
      rw[hn2l] at h1
      have h3:G.Q b=4 ^ n.lv * (4 - n.es.length)+G.U b:=by rw[ho.q,qOf_u,ho.w]
      rw[h3,hbQ]
      have h4:4 ^ n.lv * (4 - (n.es.length+ex.length))≤4 ^ n.lv * (4 - n.es.length):=Nat.mul_le_mul_left _ (by omega)
      omega
     ·have h1:=hQ.potU
      have h2:=hP.potQ
      rw[hsQ] at h1
      rw[hbQ]
      omega
     ·have h1:=hQ.fr
      have h2:=hP.fr
      omega
end
end
section
def St.insert (S:St) (k:Bool) (key:Int) (v:Nat) (r:Nat):Option (Nat × St):=
 match S.load r with
 |none=>none
 |some n=>match S.ins k key v n.lv r n with
  |none=>none
  |some (d,ex,S1)=>match ex with
   | []=>some (d,S1)
   |e :: _=>if n.lv=8 then none else match S1.bl.pick with
    |none=>none
    |some t=>some (t,({ S1 with bl:=S1.bl.setN t 1 }:St).put t ⟨n.lv+1,0,[((((S1.load d).map (fun m=>(m.es[0]?.getD (0,0)).1)).getD 0),d),e]⟩)
def hP:Nat→Nat
 |0=>0
 |l+1=>hP l+(if l=0 then 8 else 6 * 4 ^ l)
def rP (G:Gh) (r:Nat) (lv:Nat):Nat:=hP lv+(if lv=0 then G.L r else 4 ^ lv * (G.L r - 2))+G.T r
def rQ (G:Gh) (r:Nat) (lv:Nat):Nat:=(if lv=0 then 0 else 4 ^ lv * (2 - G.L r))+G.U r
structure TopP (S S':St) (Z:Nat→Bool) (rs pd:List Nat) (G G':Gh) (k:Bool) (r:Nat) (L:List (Int × Nat)) (q:Nat):Prop where
 inv:Inv S' Z (r :: rs) pd G'
 keep:Keep S S' Z rs G G'
 kd:G'.K r=k
 con:G'.E r=L
 fr:S.bl.free≤S'.bl.free+q
section
variable {S:St} {Z:Nat→Bool} {rs pd:List Nat} {G:Gh} {b c:Nat} {n:Nd} {k:Bool} {key:Int} {v:Nat}
theorem insert_ok (hkr:0≤key∧key<16777216) {r:Nat} (h:Inv S Z (r :: rs) (dv k v++pd) G) (hn:S.nd Z r=some n) (hK:G.K r=k) (hl8:n.lv≠8) (hr2:n.lv≠0→2≤n.es.length) :
  match S.insert k key v r with
  |none=>S.bl.free<2 * (n.lv+1)+1
  |some (t,S')=>∃G' m,TopP S S' Z rs (oldD k (G.E r) key++pd) G G' k t (insE (G.E r) key v) (2 * (n.lv+1)+1)∧S'.nd Z t=some m∧(m.lv≠0→2≤m.es.length)∧rP G' t m.lv≤rP G r n.lv+1∧rQ G' t m.lv≤rQ G r n.lv:=by
 unfold St.insert
 rw[(nd_count hn).2.2]
 dsimp only
 have hi:=ins_ok (v:=v) hkr n.lv S Z rs pd G r n h hn rfl hK
 rcases hq:S.ins k key v n.lv r n with _| ⟨d,ex,S1⟩
 ·rw[hq] at hi
  dsimp only at hi ⊢
  omega
 ·rw[hq] at hi
  dsimp only at hi ⊢
  obtain ⟨G1,hP1⟩:=hi
  obtain ⟨md,hd1,hd2,hd3,hd4⟩:=hP1.nc
  rcases ex with _| ⟨e,t⟩
  ·dsimp only
   refine ⟨G1,md,⟨hP1.inv,hP1.keep,hd3,?_,by have:=hP1.fr;omega⟩,hd1,(fun q=>by have:=hd4 rfl;have:=hr2 (by rw[←hd2];exact q);omega),?_,?_⟩
   ·have:=hP1.con
    simpa using this
   ·have h1:=hP1.pot2
    have h2:=hd4 rfl
    have h3:=(hP1.inv.nd d md hd1).l
    have h4:=(h.nd r n hn).l
    simp only[List.map_nil,List.sum_nil,Nat.add_zero] at h1
    rw[hd2]
    unfold rP
    by_cases hl:n.lv=0
    ·rw[if_pos hl,if_pos hl]
     rw[hl] at h1
     omega
    ·rw[if_neg hl,if_neg hl]
     have h5:=hr2 hl
     have h6:4 ^ n.lv * (G1.L d - 2)+4 ^ n.lv * 2=4 ^ n.lv * G1.L d:=by rw[←Nat.mul_add];congr 1;omega
     have h7:4 ^ n.lv * (G.L r - 2)+4 ^ n.lv * 2=4 ^ n.lv * G.L r:=by rw[←Nat.mul_add];congr 1;omega
     omega
   ·have h1:=hP1.potU
    have h2:=hd4 rfl
    have h3:=(hP1.inv.nd d md hd1).l
    have h4:=(h.nd r n hn).l
    simp only[List.map_nil,List.sum_nil,Nat.add_zero] at h1
    rw[hd2]
    unfold rQ
    by_cases hl:n.lv=0
    ·rw[if_pos hl,if_pos hl]
     omega
    ·rw[if_neg hl,if_neg hl]
     have h6:4 ^ n.lv * (2 - G1.L d)≤4 ^ n.lv * (2 - G.L r):=Nat.mul_le_mul_left _ (by omega)
     omega
  ·obtain rfl:t= []:=by have:=hP1.e1;simp at this;exact this
   dsimp only
   have hpot:=hP1.pot
   simp only[List.map_cons,List.map_nil,List.sum_cons,List.sum_nil,List.length_cons,List.length_nil] at hpot
   have hn8:n.lv≠8:=hl8
   rw[if_neg hn8]
   rcases hp:S1.bl.pick with _|t
   ·dsimp only
    have:=Mp.pick_none hp
    have:=hP1.fr
    omega
   ·dsimp only
    obtain ⟨a1,a2,a3,a4,a5,a6,a7⟩:=hP1.inv.alloc hp
    obtain ⟨p1,p2,p3⟩:=Mp.pick_some hp
    obtain ⟨me,he1,he2,he3,he4,he5⟩:=hP1.ne e List.mem_cons_self
    have hld:S1.load d=some md:=(nd_count hd1).2.2
    have hod:=hP1.inv.nd d md hd1
    obtain ⟨y,hy⟩:=hP1.na
    have hmne:md.es≠[]:=by
     intro q
     rw[hod.a] at hy
     rcases aOf_mem.1 hy with ⟨x,hx,-⟩| ⟨-,x,hx,-⟩
     ·rw[q] at hx;cases hx
     ·rw[q] at hx;cases hx
    obtain ⟨x0,tl,hx0⟩:=List.exists_cons_of_ne_nil hmne
    have hx0m:x0∈md.es:=by rw[hx0];exact List.mem_cons_self
    have hfx:(((S1.load d).map (fun m=>(m.es[0]?.getD (0,0)).1)).getD 0)=x0.1:=by rw[hld];show (md.es[0]?.getD (0,0)).1=x0.1;rw[hx0];rfl
    rw[hfx]
    have hxA:x0.1∈G1.A d:=by rw[hod.a];exact aOf_mem.2 (.inl ⟨x0,hx0m,rfl⟩)
    have hle:∀z∈G1.A d,x0.1≤z:=fun z hz=>by
     have hasc:=hod.f.asc
     unfold AscE at hasc
     rw[hx0,List.pairwise_cons] at hasc
     have hge:∀q∈md.es,x0.1≤q.1:=fun q hq=>by
      rw[hx0] at hq
      rcases List.mem_cons.1 hq with rfl|hq
      ·exact Int.le_refl _
      ·exact Int.le_of_lt (hasc.1 q hq)
     rw[hod.a] at hz
     rcases aOf_mem.1 hz with ⟨q,hq,rfl⟩| ⟨h0,q,hq,hz⟩
     ·exact hge q hq
     ·obtain ⟨-,-,-,-,h4⟩:=hod.f.kid h0 q hq
      have:=h4 z hz
      have:=hge q hq
      omega
    have hxe:x0.1<e.1:=he5 _ hxA
    have hEr:0≤e.1∧e.1<16777216:=by
     rcases List.mem_cons.1 (hP1.key e List.mem_cons_self) with h1|h1
     ·rw[h1];exact hkr
     ·exact (h.keys n.lv r n hn rfl).2.1 _ h1
    have hkn:kids ⟨n.lv+1,0,[(x0.1,d),e]⟩= [d,e.2]:=by unfold kids;rw[if_neg (Nat.succ_ne_zero _)];rfl
    have hdn:dats k ⟨n.lv+1,0,[(x0.1,d),e]⟩= []:=by unfold dats;rw[if_neg (fun q=>by cases q.1)]
    have i1:=a1.perm (rs':=kids ⟨n.lv+1,0,[(x0.1,d),e]⟩ ++rs) (pd':=dats k ⟨n.lv+1,0,[(x0.1,d),e]⟩ ++(oldD k (G.E r) key++pd)) (fun u=>by rw[hkn];rfl) (fun u=>by rw[hdn];rfl)
    have hf:NdF (St.nd { S1 with bl:=S1.bl.setN t 1 } (Zi Z t)) G1 k ⟨n.lv+1,0,[(x0.1,d),e]⟩:=by
     have h8:=(h.nd r n hn).f.lv
     refine ⟨by show n.lv+1≤8;omega,?_,fun q hq=>?_,fun _=>by simp,fun _ q hq=>?_,fun _=>?_,fun _ q hq=>?_⟩
     ·show List.Pairwise _ [(x0.1,d),e]
      simp[hxe]
     ·rcases List.mem_cons.1 hq with rfl|hq
      ·exact hod.f.rng x0 hx0m
      ·rw[List.mem_singleton] at hq;subst hq;exact hEr
     ·rcases List.mem_cons.1 hq with rfl|hq
      ·exact ⟨md,(a7 d).trans hd1,by show md.lv+1=n.lv+1;omega,hd3,hle⟩
      ·rw[List.mem_singleton] at hq;subst hq
       exact ⟨me,(a7 _).trans he1,by show me.lv+1=n.lv+1;omega,he3,he4⟩
     ·show List.Pairwise _ [(x0.1,d),e]
      simp
      exact fun z hz=>he5 z hz
     ·rcases List.mem_cons.1 hq with rfl|hq
      ·exact List.ne_nil_of_mem hy
      ·rw[List.mem_singleton] at hq;subst hq
       exact hP1.nx _ List.mem_cons_self
    obtain ⟨c1,c2,c3⟩:=i1.close a5 (by rw[a3];omega) a3 hf (by show 2≤7;omega)
    obtain ⟨s1,s2,s3,s4⟩:=set_same (G:=G1) (c:=t) (n:=⟨n.lv+1,0,[(x0.1,d),e]⟩) (k:=k)
    have hrt:∀u∈rs,u≠t:=fun u hu q=>by
     have h1:=hP1.inv.ct t a5
     have h2:=List.count_pos_iff.2 (q▸hu)
     rw[List.count_cons] at h1
     simp only[List.map_cons,List.map_nil,List.count_append] at h1
     omega
    have hzt:∀u,Z u=true→u≠t:=fun u hu q=>by rw[q,a5] at hu;cases hu
    refine ⟨_,_,⟨c1,⟨hP1.keep.dk,hP1.keep.sq,hP1.keep.bo,a2.bn.trans hP1.keep.bn,hP1.keep.dl,hP1.keep.do_,fun u hu=>?_,fun u hu=>?_,fun u hu=>?_,fun u hu=>⟨?_,?_⟩⟩,s4,?_,?_⟩,c2,(fun _=>by show 2≤2;omega),?_,?_⟩
    ·rw[c3 u (hrt u hu),a7 u]
     exact hP1.keep.nd u hu
    ·obtain ⟨q1,q2,q3,q4⟩:=set_other (G:=G1) (c:=t) (n:=⟨n.lv+1,0,[(x0.1,d),e]⟩) (k:=k) (hrt u hu)
     obtain ⟨w1,w2,w3,w4⟩:=hP1.keep.gh u hu
     exact ⟨q1.trans w1,q2.trans w2,q3.trans w3,q4.trans w4⟩
    ·obtain ⟨q1,q2,q3,q4⟩:=set_other2 (G:=G1) (c:=t) (n:=⟨n.lv+1,0,[(x0.1,d),e]⟩) (k:=k) (hrt u hu)
     obtain ⟨w1,w2,w3,w4⟩:=hP1.keep.gh2 u hu
     exact ⟨q1.trans w1,q2.trans w2,q3.trans w3,q4.trans w4⟩
    ·show (S1.bl.setN t 1).count u=_
     rw[Mp.count_setN p1,if_neg (hzt u hu)]
     exact (hP1.keep.zk u hu).1
    ·show (if u=t then _ else _)=_
     rw[if_neg (hzt u hu)]
     exact (hP1.keep.zk u hu).2
    ·rw[s1,←hP1.con]
     unfold eOf
     rw[if_neg (Nat.succ_ne_zero _)]
     simp
    ·have h1:=hP1.fr
     have h2:=count_free hp
     show S.bl.free≤(S1.bl.setN t 1).free+_
     omega
    ·obtain ⟨w1,w2,w3,w4⟩:=set_same2 (G:=G1) (c:=t) (n:=⟨n.lv+1,0,[(x0.1,d),e]⟩) (k:=k)
     obtain ⟨f1,f2⟩:=hP1.four e List.mem_cons_self
     have hoe:=hP1.inv.nd e.2 me he1
     have e1:tOf G1 ⟨n.lv+1,0,[(x0.1,d),e]⟩=G1.P d+G1.P e.2:=by
      unfold tOf
      rw[if_neg (Nat.succ_ne_zero _)]
      simp
     have p1:G1.P d=G1.T d:=by rw[hod.p,pOf_t,←hod.l,f1,hod.t];simp
     have p2:G1.P e.2=G1.T e.2:=by rw[hoe.p,pOf_t,←hoe.l,f2,hoe.t];simp
     have h1:=hP1.pot2
     simp only[List.map_cons,List.map_nil,List.sum_cons,List.sum_nil,Nat.add_zero] at h1
     rw[f1,f2] at h1
     have h4:=(h.nd r n hn).l
     have h7:=(h.nd r n hn).ln
     unfold rP
     rw[w1,w2,e1,p1,p2]
     show hP n.lv+(if n.lv=0 then 8 else 6 * 4 ^ n.lv)+(if n.lv+1=0 then _ else 4 ^ (n.lv+1) * (2 - 2))+_≤_
     rw[if_neg (Nat.succ_ne_zero _)]
     by_cases hl:n.lv=0
     ·rw[if_pos hl,if_pos hl]
      rw[hl] at h1
      omega
     ·rw[if_neg hl,if_neg hl]
      have h5:=hr2 hl
      have h6:4 ^ n.lv * (G.L r - 2)+4 ^ n.lv * 2=4 ^ n.lv * G.L r:=by rw[←Nat.mul_add];congr 1;omega
      omega
    ·obtain ⟨w1,w2,w3,w4⟩:=set_same2 (G:=G1) (c:=t) (n:=⟨n.lv+1,0,[(x0.1,d),e]⟩) (k:=k)
     obtain ⟨f1,f2⟩:=hP1.four e List.mem_cons_self
     have hoe:=hP1.inv.nd e.2 me he1
     have e1:uOf G1 ⟨n.lv+1,0,[(x0.1,d),e]⟩=G1.Q d+G1.Q e.2:=by
      unfold uOf
      rw[if_neg (Nat.succ_ne_zero _)]
      simp
     have p1:G1.Q d=G1.U d:=by rw[hod.q,qOf_u,←hod.l,f1,hod.w];simp
     have p2:G1.Q e.2=G1.U e.2:=by rw[hoe.q,qOf_u,←hoe.l,f2,hoe.w];simp
     have h1:=hP1.potU
     simp only[List.map_cons,List.map_nil,List.sum_cons,List.sum_nil,Nat.add_zero] at h1
     unfold rQ
     rw[w4,w2,e1,p1,p2]
     show (if n.lv+1=0 then _ else 4 ^ (n.lv+1) * (2 - 2))+_≤_
     rw[if_neg (Nat.succ_ne_zero _)]
     omega
end
end
end Go.Proofs.YtplhdjdkobddnaaGreat
