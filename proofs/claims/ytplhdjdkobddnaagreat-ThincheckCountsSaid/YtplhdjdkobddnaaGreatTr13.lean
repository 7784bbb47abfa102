/- CtH CtI -/
import Derived.Test.YtplhdjdkobddnaaGreatTr12
set_option linter.unusedVariables false
set_option maxRecDepth 100000
set_option maxHeartbeats 40000000
namespace Go.Proofs.YtplhdjdkobddnaaGreat
section
def St.rem (k:Bool) (key:Int):Nat→St→Nat→Nd→Option (Nat × List (Int × Nat) × St)
 |0,S,b,n=>match S.touch b n k with
  |none=>none
  |some (c,S1)=>some (c,delN n.es (findN n.es key).toNat,S1.put c { n with es:=delN n.es (findN n.es key).toNat })
 |l+1,S,b,n=>match S.touch b n k with
  |none=>none
  |some (c,S1)=>match S1.load (n.es[(findN n.es key).toNat]?.getD (0,0)).2 with
   |none=>none
   |some m=>match St.rem k key l S1 (n.es[(findN n.es key).toNat]?.getD (0,0)).2 m with
    |none=>none
    |some (d,des,S2)=>if des= [] then some (c,delN n.es (findN n.es key).toNat,({ S2 with bl:=S2.bl.dec d }:St).put c { n with es:=delN n.es (findN n.es key).toNat })
     else some (c,n.es.set (findN n.es key).toNat ((n.es[(findN n.es key).toNat]?.getD (0,0)).1,d),S2.put c { n with es:=n.es.set (findN n.es key).toNat ((n.es[(findN n.es key).toNat]?.getD (0,0)).1,d) })
section
variable {S:St} {Z:Nat→Bool} {rs pd:List Nat} {G:Gh} {b c:Nat} {n:Nd} {k:Bool} {key:Int} {v:Nat}
theorem Inv.cong {S':St} (h:Inv S Z rs pd G) (hb:S'.bl=S.bl) (hd:S'.da=S.da) (hs:S'.seq=S.seq) (hl:∀u,Z u=false→S'.load u=S.load u):Inv S' Z rs pd G∧∀u,S'.nd Z u=S.nd Z u:=by
 have nn:∀u,S'.nd Z u=S.nd Z u:=fun u=>by
  unfold St.nd
  rw[hb]
  split
  ·rfl
  ·rename_i hc
   refine hl u ?_
   rcases hz:Z u with _|_
   ·rfl
   ·exact absurd (.inr hz) hc
 have rr:∀u,S'.refs Z u=S.refs Z u:=fun u=>by
  unfold St.refs
  rw[hb]
  exact sumR_congr _ (fun w _=>by rw[nn w])
 have dd:∀u,S'.drefs Z G u=S.drefs Z G u:=fun u=>by
  unfold St.drefs
  rw[hb]
  exact sumR_congr _ (fun w _=>by rw[nn w])
 refine ⟨⟨by rw[hb];exact h.ln,fun u hu hz=>by rw[hl u hz];rw[hb] at hu;exact h.ld u hu hz,fun u m hm=>?_,fun u hz=>by rw[hb,rr];exact h.ct u hz,fun u hz=>by rw[rr];exact h.zz u hz,fun u hz=>by rw[hb];exact h.zc u hz,fun d=>by rw[hd,dd];exact h.dt d⟩,nn⟩
 rw[nn u] at hm
 rw[hs]
 exact (h.nd u m hm).cong (fun x _=>nn x)
theorem Inv.putO (h:Inv S (Zi Z c) rs pd G) (n:Nd):Inv (S.put c n) (Zi Z c) rs pd G∧∀u,(S.put c n).nd (Zi Z c) u=S.nd (Zi Z c) u:=
 h.cong rfl rfl rfl (fun u hz=>by
  obtain ⟨-,hne⟩:=Zi_false hz
  unfold St.load St.put
  dsimp only
  rw[if_neg hne])
structure RemO (S S':St) (Z:Nat→Bool) (rs pd:List Nat) (G G':Gh) (l:Nat) (c:Nat) (L:List (Int × Nat)) (q:Nat):Prop where
 inv:Inv S' (Zi Z c) rs pd G'
 cz:Z c=false
 c1:S'.bl.count c=1
 keep:Keep S S' Z rs G G'
 con:L= []
 pot:4 ^ (l+1)≤q+1
 fr:S.bl.free≤S'.bl.free+(l+1)
structure RemC (S S':St) (Z:Nat→Bool) (rs pd:List Nat) (G G':Gh) (l:Nat) (k:Bool) (c:Nat) (es:List (Int × Nat)) (L:List (Int × Nat)) (A:List Int) (t u w:Nat):Prop where
 inv:Inv S' Z (c :: rs) pd G'
 c1:S'.bl.count c=1
 keep:Keep S S' Z rs G G'
 nc:∃m,S'.nd Z c=some m∧m.lv=l∧m.es=es∧G'.K c=k
 sub:∀y∈G'.A c,y∈A
 con:G'.E c=L
 len:G'.L c≤w
 potT:G'.T c≤t
 potU:G'.U c+4 ^ l * (w - G'.L c)≤u+1
 fr:S.bl.free≤S'.bl.free+(l+1)
theorem find_has {l:List (Int × Nat)} {w:Nat} (h:AscE l) (hw:lookE l key=some w):∃pre post,l=pre++(key,w) :: post∧(findN l key).toNat=pre.length∧(∀e∈pre,e.1<key)∧∀e∈post,key<e.1:=by
 rcases lookE_split h key with ⟨h1,-⟩| ⟨w',pre,post,h1,h2,h3,h4⟩
 ·rw[hw] at h1;cases h1
 ·rw[hw] at h1
  injection h1 with h1
  subst h1
  rcases find_split h key with ⟨f1,f2⟩| ⟨pre2,x,post2,f1,f2,f3,f4,f5⟩
  ·have:=f2 (key,w) (by rw[h2];simp)
   simp at this
  ·have hx:(key,w)∈pre2++x :: post2:=by rw[←f1,h2];simp
   have hxk:x=(key,w):=by
    rcases List.mem_append.1 hx with hx|hx
    ·have:=f4 _ hx
     simp at this
     omega
    ·rcases List.mem_cons.1 hx with hx|hx
     ·exact hx.symm
     ·have:=f5 _ hx
      simp at this
   subst hxk
   exact ⟨pre2,post2,f1,by rw[f2];simp,f4,f5⟩
theorem delN_at {pre post:List (Int × Nat)} (x:Int × Nat):delN (pre++x :: post) pre.length=pre++post:=by
 obtain ⟨h1,h2,h3⟩:=take_len pre x post
 unfold delN
 rw[h1,h2]
theorem set_at {pre post:List (Int × Nat)} (x y:Int × Nat):(pre++x :: post).set pre.length y=pre++y :: post:=by
 rw[List.set_append_right _ _ (Nat.le_refl _)]
 simp
theorem delE_at {pre post:List (Int × Nat)} {w:Nat} (h1:∀e∈pre,e.1<key) (h2:∀e∈post,key<e.1):delE (pre++(key,w) :: post) key=pre++post:=by
 have:=delE_app (mid:=[(key,w)]) h1 h2
 simp only[List.append_assoc,List.singleton_append] at this
 rw[this]
 unfold delE
 simp
theorem free_dec (m:Mp) (c:Nat) (hc:c<m.now.length):m.free≤(m.dec c).free:=
 free_mono (Mp.setN_len _ _ _) (fun u hu=>by
  unfold Mp.isFree at hu ⊢
  have h3:=of_decide_eq_true hu
  refine decide_eq_true ⟨?_,h3.2⟩
  rw[Mp.count_dec hc,h3.1]
  omega)
end
end
section
section
variable {S:St} {Z:Nat→Bool} {rs pd:List Nat} {G:Gh} {b c:Nat} {n:Nd} {k:Bool} {key:Int} {v:Nat}
theorem remC_close {S3:St} {G2:Gh} {n2:Nd} {L:List (Int × Nat)} {A:List Int} {t u w:Nat} (hI:Inv S3 (Zi Z c) (kids n2++rs) (dats k n2++pd) G2) (hz:Z c=false) (hc1:S3.bl.count c=1) (hf:NdF (S3.nd (Zi Z c)) G2 k n2) (hln:n2.es.length≤7) (hK:Keep S S3 Z rs G G2)
  (hE:eOf G2 n2=L) (hA:∀y∈aOf G2 n2,y∈A) (hw:n2.es.length≤w) (ht:tOf G2 n2≤t) (hu:uOf G2 n2+4 ^ n2.lv * (w - n2.es.length)≤u+1) (hfr:S.bl.free≤S3.bl.free+(n2.lv+1)) :
  RemC S (S3.put c n2) Z rs pd G (G2.set c n2 k) n2.lv k c n2.es L A t u w:=by
 have hzc:=hI.zz c (Zi_self Z c)
 rw[List.count_append] at hzc
 have hcr:∀r∈rs,r≠c:=fun r hr e=>by
  have:=List.count_pos_iff.2 (e▸hr)
  omega
 obtain ⟨c1,c2,c3⟩:=hI.close hz (by omega) hc1 hf hln
 obtain ⟨s1,s2,s3,s4⟩:=set_same (G:=G2) (c:=c) (n:=n2) (k:=k)
 obtain ⟨w1,w2,w3,w4⟩:=set_same2 (G:=G2) (c:=c) (n:=n2) (k:=k)
 refine ⟨c1,hc1,⟨hK.dk,hK.sq,hK.bo,hK.bn,hK.dl,hK.do_,fun r hr=>?_,fun r hr=>?_,fun r hr=>?_,fun x hx=>⟨(hK.zk x hx).1,?_⟩⟩,⟨_,c2,rfl,rfl,s4⟩,by rw[s2];exact hA,by rw[s1];exact hE,by rw[w2];exact hw,by rw[w1];exact ht,by rw[w4,w2];exact hu,hfr⟩
 ·rw[c3 r (hcr r hr),nd_Zi (hcr r hr)]
  exact hK.nd r hr
 ·obtain ⟨q1,q2,q3,q4⟩:=set_other (G:=G2) (c:=c) (n:=n2) (k:=k) (hcr r hr)
  obtain ⟨y1,y2,y3,y4⟩:=hK.gh r hr
  exact ⟨q1.trans y1,q2.trans y2,q3.trans y3,q4.trans y4⟩
 ·obtain ⟨q1,q2,q3,q4⟩:=set_other2 (G:=G2) (c:=c) (n:=n2) (k:=k) (hcr r hr)
  obtain ⟨y1,y2,y3,y4⟩:=hK.gh2 r hr
  exact ⟨q1.trans y1,q2.trans y2,q3.trans y3,q4.trans y4⟩
 ·have:x≠c:=by rintro rfl;rw[hz] at hx;cases hx
  show (if x=c then _ else _)=_
  rw[if_neg this]
  exact (hK.zk x hx).2
theorem Keep.putO {S3:St} {G2:Gh} (hK:Keep S S3 Z rs G G2) (hz:Z c=false) (hcr:∀r∈rs,r≠c) (n:Nd):Keep S (S3.put c n) Z rs G G2:=
 ⟨hK.dk,hK.sq,hK.bo,hK.bn,hK.dl,hK.do_,fun r hr=>by
  rw[←hK.nd r hr]
  unfold St.nd St.load St.put
  dsimp only
  rw[if_neg (hcr r hr)],hK.gh,hK.gh2,fun x hx=>⟨(hK.zk x hx).1,by
   have:x≠c:=by rintro rfl;rw[hz] at hx;cases hx
   show (if x=c then _ else _)=_
   rw[if_neg this]
   exact (hK.zk x hx).2⟩⟩
theorem Inv.keep_open (h:Inv S Z (b :: rs) pd G) (hn:S.nd Z b=some n) {S1:St} (ht:S.touch b n (G.K b)=some (c,S1)):Keep S S1 Z rs G G∧(∀r∈rs,r≠c)∧∀u∈kids n,u≠c∧S1.nd (Zi Z c) u=S.nd Z u:=by
 obtain ⟨o1,o2,o3,o4,o5,o6⟩:=h.open hn ht
 obtain ⟨t1,t2⟩:=h.touched hn ht
 have hzc:=o1.zz c (Zi_self Z c)
 rw[List.count_append] at hzc
 have hrs:∀r∈rs,r≠c:=fun r hr e=>by
  have h2:=List.count_pos_iff.2 (e▸hr)
  omega
 have hkc:∀u∈kids n,u≠c:=fun u hu e=>by
  have h2:=List.count_pos_iff.2 (e▸hu)
  omega
 refine ⟨⟨o2.dk,o2.sq,o2.bo,o2.bn,o2.dl,o2.do_,fun r hr=>?_,fun _ _=>⟨rfl,rfl,rfl,rfl⟩,fun _ _=>⟨rfl,rfl,rfl,rfl⟩,fun u hu=>⟨t1 u hu,by rw[o2.ch]⟩⟩,hrs,fun u hu=>⟨hkc u hu,?_⟩⟩
 ·obtain ⟨m,m1,m2⟩:=root_same h o1 (o2.load r) (List.mem_cons_of_mem _ hr) (List.mem_append_right _ hr)
  rw[m1,←m2,nd_Zi (hrs r hr)]
 ·have hc:=List.count_pos_iff.2 hu
  obtain ⟨q,hq⟩:=kids_nd (h.nd b n hn).f hu
  have h1:=o1.ct u (by rw[Zi_ne (hkc u hu)];exact (nd_count hq).2.1)
  rw[List.count_append] at h1
  rw[hq]
  exact nd_of (by omega) (by rw[Zi_ne (hkc u hu)];exact (nd_count hq).2.1) (by rw[o2.load];exact (nd_count hq).2.2)
theorem rem_ok:∀(l:Nat) (S:St) (Z:Nat→Bool) (rs pd:List Nat) (G:Gh) (b:Nat) (n:Nd) (w:Nat),Inv S Z (b :: rs) pd G→S.nd Z b=some n→n.lv=l→G.K b=k→lookE (G.E b) key=some w→
  match S.rem k key l b n with
  |none=>S.bl.free<l+1
  |some (c,es,S')=>∃G',(es= []→RemO S S' Z rs (dv k w++pd) G G' l c (delE (G.E b) key) (G.Q b))∧(es≠[]→RemC S S' Z rs (dv k w++pd) G G' l k c es (delE (G.E b) key) (G.A b) (G.T b) (G.U b) (G.L b)):=by
 intro l
 induction l with
 |zero=>
  intro S Z rs pd G b n w h hn hl hK hw
  have ho:=h.nd b n hn
  have eE:G.E b=n.es:=by rw[ho.e];unfold eOf;rw[if_pos hl]
  have hasc:=ho.f.asc
  rw[eE] at hw ⊢
  obtain ⟨pre,post,hes,hfi,hpre,hpost⟩:=find_has hasc hw
  have hdel:delN n.es (findN n.es key).toNat=pre++post:=by rw[hfi,hes];exact delN_at _
  have hdE:delE n.es key=pre++post:=by rw[hes];exact delE_at hpre hpost
  unfold St.rem
  rcases ht:S.touch b n k with _| ⟨c,S1⟩
  ·have:=touch_none ht
   dsimp only
   omega
  ·dsimp only
   rw[hdel,hdE]
   rw[←hK] at ht
   obtain ⟨o1,o2,o3,o4,o5,o6⟩:=h.open hn ht
   obtain ⟨t1,t2⟩:=h.touched hn ht
   obtain ⟨kp,hrs,-⟩:=h.keep_open hn ht
   rw[hK] at o1
   have hkn:kids n= []:=by unfold kids;rw[if_pos hl]
   have hk2:kids { n with es:=pre++post } = []:=by unfold kids;rw[if_pos hl]
   rw[hkn] at o1
   have hdd:∀d,(dats k n).count d=(dats k { n with es:=pre++post }).count d+(dv k w).count d:=fun d=>by
    cases k
    ·unfold dats dv
     simp
    ·unfold dats dv
     rw[if_pos ⟨hl,rfl⟩,if_pos ⟨hl,rfl⟩,hes]
     simp only[List.map_append,List.map_cons,List.count_append,List.count_cons,List.count_nil,if_true]
     omega
   have hTU:G.T b=0∧G.U b=0:=⟨by rw[ho.t];exact if_pos hl,by rw[ho.w];exact if_pos hl⟩
   have hnl:n.es.length=pre.length+post.length+1:=by rw[hes];simp;omega
   by_cases he:pre++post= []
   ·have hne:n.es.length=1:=by
     obtain ⟨e1,e2⟩:=List.append_eq_nil_iff.1 he
     rw[hnl,e1,e2];rfl
    refine ⟨G,fun _=>?_,fun e=>absurd he e⟩
    have i1:=o1.perm (rs':=rs) (pd':=dv k w++pd) (fun u=>rfl) (fun d=>by
     have:=hdd d
     have e2:dats k { n with es:=pre++post } = []:=by unfold dats;rw[he];split <;> rfl
     rw[e2] at this
     simp only[List.count_append,List.count_nil] at this ⊢
     omega)
    obtain ⟨j1,j2⟩:=i1.putO { n with es:=pre++post }
    refine ⟨j1,o5,o3,kp.putO o5 hrs _,he,?_,?_⟩
    ·rw[ho.q]
     unfold qOf
     rw[if_pos hl,hl,hne]
     omega
    ·show S.bl.free≤S1.bl.free+_
     omega
   ·refine ⟨G.set c { n with es:=pre++post } k,fun e=>absurd e he,fun _=>?_⟩
    have i1:=o1.perm (rs':=kids { n with es:=pre++post } ++rs) (pd':=dats k { n with es:=pre++post } ++(dv k w++pd)) (fun u=>by rw[hk2]) (fun d=>by
     have:=hdd d
     simp only[List.count_append]
     omega)
    have hsub:(pre++post).Sublist n.es:=by
     rw[hes]
     exact List.Sublist.append (List.Sublist.refl _) (List.sublist_cons_self _ _)
    have hf0:NdF (S1.nd (Zi Z c)) G k n:=by
     have:=ho.f.cong (N':=S1.nd (Zi Z c)) (fun x hx=>by rw[hkn] at hx;cases hx)
     rw[hK] at this
     exact this
    have hf:NdF (S1.nd (Zi Z c)) G k { n with es:=pre++post }:=hf0.sub hsub (fun e=>absurd hl e)
    have hl7:=ho.ln
    have hh:=remC_close (n2:={ n with es:=pre++post }) (L:=pre++post) (A:=G.A b) (t:=G.T b) (u:=G.U b) (w:=G.L b) i1 o5 o3 hf (by show (pre++post).length≤7;simp;omega) kp (if_pos hl) (fun y hy=>by
     rw[ho.a]
     rcases aOf_mem.1 hy with ⟨e,he,rfl⟩| ⟨h1,-⟩
     ·exact aOf_mem.2 (.inl ⟨e,hsub.subset he,rfl⟩)
     ·exact absurd hl h1) (by rw[ho.l];show (pre++post).length≤_;simp;omega) (by rw[show tOf G { n with es:=pre++post } =0 from if_pos hl];omega) (by
      rw[show uOf G { n with es:=pre++post } =0 from if_pos hl,ho.l]
      show 0+4 ^ n.lv * (n.es.length - (pre++post).length)≤_
      rw[hl]
      simp
      omega) (by show S.bl.free≤S1.bl.free+(n.lv+1);omega)
    rw[←hl]
    exact hh
 |succ l ih=>
  intro S Z rs pd G b n w h hn hl hK hw
  have ho:=h.nd b n hn
  have hl0:n.lv≠0:=by omega
  have hasc:=ho.f.asc
  have eE:G.E b=n.es.flatMap (fun e=>G.E e.2):=by rw[ho.e];unfold eOf;rw[if_neg hl0]
  have hkE:∀e∈n.es,∀q∈G.E e.2,q.1∈G.A e.2∧e.1≤q.1:=fun e he q hq=>by
   obtain ⟨m',q1,q2,q3,q4⟩:=ho.f.kid hl0 e he
   have:=(h.keys m'.lv e.2 m' q1 rfl).1 q hq
   exact ⟨this,q4 _ this⟩
  have hwm:(key,w)∈G.E b:=by
   unfold lookE at hw
   rcases hf:(G.E b).find? (fun e=>decide (e.1=key)) with _|e
   ·rw[hf] at hw;cases hw
   ·rw[hf] at hw
    injection hw with hw
    have h1:=List.find?_some hf
    have h2:=List.mem_of_find?_eq_some hf
    simp at h1
    rw[←h1,←hw]
    exact h2
  obtain ⟨ek,hek,hwk⟩:=List.mem_flatMap.1 (eE▸hwm)
  have hle:=(hkE ek hek _ hwk).2
  rcases find_split hasc key with ⟨f1,f2⟩| ⟨pre,e0,post,hes,f2,f3,f4,f5⟩
  ·have:=f2 ek hek
   simp at hle
   omega
  ·have hfi:(findN n.es key).toNat=pre.length:=by rw[f2];simp
   obtain ⟨g1,g2,g3⟩:=take_len pre e0 post
   have hget:n.es[(findN n.es key).toNat]?.getD (0,0)=e0:=by rw[hfi,hes,g3];rfl
   have hdl:delN n.es (findN n.es key).toNat=pre++post:=by rw[hfi,hes];exact delN_at _
   have hst:∀y,n.es.set (findN n.es key).toNat y=pre++y :: post:=fun y=>by rw[hfi,hes];exact set_at _ _
   have hee:e0∈n.es:=by rw[hes];simp
   have hpe:∀e∈pre,e∈n.es:=fun e he=>by rw[hes];exact List.mem_append_left _ he
   have hqe:∀e∈post,e∈n.es:=fun e he=>by rw[hes];exact List.mem_append_right _ (List.mem_cons_of_mem _ he)
   obtain ⟨m,hm1,hm2,hm3,hm4⟩:=ho.f.kid hl0 e0 hee
   rw[hK] at hm3
   have hsep:=ho.f.sep hl0
   rw[hes] at hsep
   obtain ⟨sp1,sp2,sp3,sp4,sp5⟩:=mem_lt hsep
   have hpreE:∀q∈pre.flatMap (fun e=>G.E e.2),q.1<key:=fun q hq=>by
    obtain ⟨e,he,hq⟩:=List.mem_flatMap.1 hq
    have:=sp1 e he q.1 (hkE e (hpe e he) q hq).1
    omega
   have hpostE:∀q∈post.flatMap (fun e=>G.E e.2),key<q.1:=fun q hq=>by
    obtain ⟨e,he,hq⟩:=List.mem_flatMap.1 hq
    have:=(hkE e (hqe e he) q hq).2
    have:=f5 e he
    omega
   have hEb:G.E b=pre.flatMap (fun e=>G.E e.2)++G.E e0.2++post.flatMap (fun e=>G.E e.2):=by rw[eE,hes];simp
   have hw0:lookE (G.E e0.2) key=some w:=by rw[hEb,lookE_app hpreE hpostE] at hw;exact hw
   have hdE:delE (G.E b) key=pre.flatMap (fun e=>G.E e.2)++delE (G.E e0.2) key++post.flatMap (fun e=>G.E e.2):=by rw[hEb];exact delE_app hpreE hpostE
   have hbP:G.T b=(pre.map (fun e=>G.P e.2)).sum+(G.P e0.2+(post.map (fun e=>G.P e.2)).sum):=by
    rw[ho.t]
    unfold tOf
    rw[if_neg hl0,hes,List.map_append,List.map_cons,List.sum_append,List.sum_cons]
   have hbQ:G.U b=(pre.map (fun e=>G.Q e.2)).sum+(G.Q e0.2+(post.map (fun e=>G.Q e.2)).sum):=by
    rw[ho.w]
    unfold uOf
    rw[if_neg hl0,hes,List.map_append,List.map_cons,List.sum_append,List.sum_cons]
   have hnl:n.es.length=pre.length+post.length+1:=by rw[hes];simp;omega
   have hl7:=ho.ln
   unfold St.rem
   rw[hget,hdl]
   rcases ht:S.touch b n k with _| ⟨c,S1⟩
   ·have:=touch_none ht
    dsimp only
    omega
   ·dsimp only
    rw[←hK] at ht
    obtain ⟨o1,o2,o3,o4,o5,o6⟩:=h.open hn ht
    obtain ⟨t1,t2⟩:=h.touched hn ht
    obtain ⟨kp,hrs,hkk⟩:=h.keep_open hn ht
    have hdn:dats (G.K b) n= []:=by unfold dats;rw[if_neg (fun e=>hl0 e.1)]
    have hkn:kids n=pre.map Prod.snd++e0.2 :: post.map Prod.snd:=by unfold kids;rw[if_neg hl0,hes,List.map_append,List.map_cons]
    rw[hdn] at o1
    have i1:=o1.perm (rs':=e0.2 :: (pre.map Prod.snd++post.map Prod.snd++rs)) (pd':=pd) (fun u=>by rw[hkn];simp only[List.count_append,List.count_cons];omega) (fun d=>by simp)
    have hm1':S1.nd (Zi Z c) e0.2=some m:=by rw[(hkk _ (kid_mem hl0 hee)).2];exact hm1
    rw[(nd_count hm1').2.2]
    dsimp only
    have hih:=ih S1 (Zi Z c) (pre.map Prod.snd++post.map Prod.snd++rs) pd G e0.2 m w i1 hm1' (by omega) hm3 hw0
    rcases hiq:S1.rem k key l e0.2 m with _| ⟨d,des,S2⟩
    ·rw[hiq] at hih
     dsimp only at hih ⊢
     omega
    ·rw[hiq] at hih
     dsimp only at hih ⊢
     obtain ⟨G2,hRO,hRC⟩:=hih
     have hroot:∀e∈pre++post,e.2∈pre.map Prod.snd++post.map Prod.snd++rs:=fun e he=>by
      refine List.mem_append_left _ ?_
      rw[←List.map_append]
      exact List.mem_map_of_mem he
     have hen:∀e∈pre++post,e∈n.es:=fun e he=>(List.mem_append.1 he).elim (hpe e) (hqe e)
     have hrr:∀r∈rs,r∈pre.map Prod.snd++post.map Prod.snd++rs:=fun r hr=>List.mem_append_right _ hr
     have htrans:Keep S1 S2 (Zi Z c) (pre.map Prod.snd++post.map Prod.snd++rs) G G2→Keep S S2 Z rs G G2:=fun q=>by
      refine ⟨q.dk.trans kp.dk,q.sq.trans kp.sq,q.bo.trans kp.bo,q.bn.trans kp.bn,q.dl.trans kp.dl,q.do_.trans kp.do_,fun r hr=>?_,fun r hr=>q.gh r (hrr r hr),fun r hr=>q.gh2 r (hrr r hr),fun u hu=>?_⟩
      ·rw[←nd_Zi (hrs r hr),q.nd r (hrr r hr),nd_Zi (hrs r hr)]
       exact kp.nd r hr
      ·have huc:u≠c:=by rintro rfl;rw[o5] at hu;cases hu
       obtain ⟨y1,y2⟩:=q.zk u (by rw[Zi_ne huc];exact hu)
       obtain ⟨x1,x2⟩:=kp.zk u hu
       exact ⟨y1.trans x1,y2.trans x2⟩
     by_cases hde:des= []
     ·rw[if_pos hde]
      dsimp only
      have hP:=hRO hde
      obtain ⟨z1,z2⟩:=Zi_false hP.cz
      obtain ⟨a1,a2,a3,a4⟩:=hP.inv.give hP.cz hP.c1
      have hkeep2:=htrans hP.keep
      have hdlt:d<S2.bl.now.length:=Mp.lt_of_count (by rw[hP.c1];omega)
      have hdr:∀r∈pre.map Prod.snd++post.map Prod.snd++rs,r≠d:=fun r hr e=>by
       have h1:=(hP.inv.zz d (Zi_self _ d)).1
       have h2:=List.count_pos_iff.2 (e▸hr)
       omega
      have hcnt:∀u,u≠d→(S2.bl.dec d).count u=S2.bl.count u:=fun u hu=>by rw[Mp.count_dec hdlt,if_neg hu];rfl
      have hc3:(S2.bl.dec d).count c=1:=by
       rw[hcnt c (fun e=>z2 e.symm),(hP.keep.zk c (Zi_self Z c)).1]
       exact o3
      have hkeep3:Keep S { S2 with bl:=S2.bl.dec d } Z rs G G2:=by
       refine ⟨hkeep2.dk,hkeep2.sq,hkeep2.bo,a2.bn.trans hkeep2.bn,hkeep2.dl,hkeep2.do_,fun r hr=>?_,hkeep2.gh,hkeep2.gh2,fun u hu=>⟨?_,(hkeep2.zk u hu).2⟩⟩
       ·rw[←nd_Zi (hrs r hr),a4 r,nd_Zi (hdr r (hrr r hr)),nd_Zi (hrs r hr)]
        exact hkeep2.nd r hr
       ·have:u≠d:=by rintro rfl;rw[z1] at hu;cases hu
        show (S2.bl.dec d).count u=_
        rw[hcnt u this]
        exact (hkeep2.zk u hu).1
      have hfr2:S.bl.free≤(S2.bl.dec d).free+(l+1+1):=by
       have h1:=hP.fr
       have h2:=free_dec S2.bl d hdlt
       omega
      have hlab:∀e∈pre++post,St.nd { S2 with bl:=S2.bl.dec d } (Zi Z c) e.2=S.nd Z e.2∧G2.E e.2=G.E e.2∧G2.A e.2=G.A e.2∧G2.P e.2=G.P e.2∧G2.K e.2=G.K e.2∧G2.Q e.2=G.Q e.2:=fun e he=>by
       have hr:=hroot e he
       obtain ⟨y1,y2,y3,y4⟩:=hP.keep.gh _ hr
       refine ⟨?_,y1,y2,y3,y4,(hP.keep.gh2 _ hr).2.2.1⟩
       rw[a4,nd_Zi (hdr _ hr),hP.keep.nd _ hr]
       exact (hkk _ (kid_mem hl0 (hen e he))).2
      have hk2:kids { n with es:=pre++post } =pre.map Prod.snd++post.map Prod.snd:=by unfold kids;rw[if_neg hl0];simp
      have hd2:dats k { n with es:=pre++post } = []:=by unfold dats;rw[if_neg (fun e=>hl0 e.1)]
      by_cases he:pre++post= []
      ·refine ⟨G2,fun _=>?_,fun e=>absurd he e⟩
       obtain ⟨e1,e2⟩:=List.append_eq_nil_iff.1 he
       have i2:=a1.perm (rs':=rs) (pd':=dv k w++pd) (fun u=>by rw[e1,e2];simp) (fun d=>rfl)
       obtain ⟨j1,j2⟩:=i2.putO { n with es:=pre++post }
       refine ⟨j1,o5,hc3,hkeep3.putO o5 hrs _,?_,?_,hfr2⟩
       ·rw[hdE,e1,e2,hP.con];rfl
       ·have h1:=hP.pot
        have h2:G.Q b=4 ^ n.lv * (4 - n.es.length)+G.U b:=by rw[ho.q,qOf_u,ho.w]
        have h3:n.es.length=1:=by rw[hnl,e1,e2];rfl
        rw[h2,h3,hbQ,e1,e2,hl]
        have h4:4 ^ (l+1+1)=4 * 4 ^ (l+1):=by rw[Nat.pow_succ];omega
        simp only[List.map_nil,List.sum_nil]
        omega
      ·refine ⟨G2.set c { n with es:=pre++post } k,fun e=>absurd e he,fun _=>?_⟩
       have hsub:(pre++post).Sublist n.es:=by
        rw[hes]
        exact List.Sublist.append (List.Sublist.refl _) (List.sublist_cons_self _ _)
       have hf:NdF (St.nd { S2 with bl:=S2.bl.dec d } (Zi Z c)) G2 k { n with es:=pre++post }:=by
        refine ⟨ho.f.lv,List.Pairwise.sublist hsub hasc,fun e he=>ho.f.rng e (hsub.subset he),fun _=>he,fun _ e he=>?_,fun _=>?_,fun _ e he=>?_⟩
        ·obtain ⟨m',q1,q2,q3,q4⟩:=ho.f.kid hl0 e (hen e he)
         obtain ⟨w1,w2,w3,w4,w5,-⟩:=hlab e he
         exact ⟨m',w1.trans q1,q2,by rw[w5,q3,hK],by rw[w3];exact q4⟩
        ·exact (List.Pairwise.sublist hsub (ho.f.sep hl0)).imp_of_mem (fun {e e'} he _ hr y hy=>hr y (by rw[(hlab e he).2.2.1] at hy;exact hy))
        ·rw[(hlab e he).2.2.1]
         exact ho.f.kn hl0 e (hen e he)
       have i2:=a1.perm (rs':=kids { n with es:=pre++post } ++rs) (pd':=dats k { n with es:=pre++post } ++(dv k w++pd)) (fun u=>by rw[hk2]) (fun q=>by rw[hd2];rfl)
       have hh:=remC_close (n2:={ n with es:=pre++post }) (L:=delE (G.E b) key) (A:=G.A b) (t:=G.T b) (u:=G.U b) (w:=G.L b) i2 o5 hc3 hf (by show (pre++post).length≤7;simp;omega) hkeep3 (by
        unfold eOf
        rw[if_neg hl0,flatMap_congr' (fun e he=>(hlab e he).2.1),hdE,hP.con]
        simp) (fun y hy=>by
         rw[ho.a]
         rcases aOf_mem.1 hy with ⟨e,he,rfl⟩| ⟨-,e,he,hy⟩
         ·exact aOf_mem.2 (.inl ⟨e,hen e he,rfl⟩)
         ·rw[(hlab e he).2.2.1] at hy
          exact aOf_mem.2 (.inr ⟨hl0,e,hen e he,hy⟩)) (by rw[ho.l];show (pre++post).length≤_;simp;omega) (by
        unfold tOf
        rw[if_neg hl0]
        dsimp only
        rw[List.map_congr_left (fun e he=>(hlab e he).2.2.2.1),hbP,List.map_append,List.sum_append]
        omega) (by
        unfold uOf
        rw[if_neg hl0,ho.l]
        dsimp only
        rw[List.map_congr_left (fun e he=>(hlab e he).2.2.2.2.2),hbQ,List.map_append,List.sum_append]
        have h1:=hP.pot
        have h3:n.es.length - (pre++post).length=1:=by simp;omega
        rw[h3,hl]
        omega) (by show S.bl.free≤(S2.bl.dec d).free+(n.lv+1);omega)
       rw[←hl]
       exact hh
     ·rw[if_neg hde,hst]
      dsimp only
      have hP:=hRC hde
      have hne:pre++(e0.1,d) :: post≠[]:=by simp
      refine ⟨G2.set c { n with es:=pre++(e0.1,d) :: post } k,fun e=>absurd e hne,fun _=>?_⟩
      have hkeep2:=htrans hP.keep
      have hc3:S2.bl.count c=1:=by rw[(hP.keep.zk c (Zi_self Z c)).1];exact o3
      have hlab:∀e∈pre++post,S2.nd (Zi Z c) e.2=S.nd Z e.2∧G2.E e.2=G.E e.2∧G2.A e.2=G.A e.2∧G2.P e.2=G.P e.2∧G2.K e.2=G.K e.2∧G2.Q e.2=G.Q e.2:=fun e he=>by
       have hr:=hroot e he
       obtain ⟨y1,y2,y3,y4⟩:=hP.keep.gh _ hr
       exact ⟨(hP.keep.nd _ hr).trans (hkk _ (kid_mem hl0 (hen e he))).2,y1,y2,y3,y4,(hP.keep.gh2 _ hr).2.2.1⟩
      have hk2:kids { n with es:=pre++(e0.1,d) :: post } =pre.map Prod.snd++d :: post.map Prod.snd:=by unfold kids;rw[if_neg hl0];simp
      have hd2:dats k { n with es:=pre++(e0.1,d) :: post } = []:=by unfold dats;rw[if_neg (fun e=>hl0 e.1)]
      have hmem:∀e∈pre++(e0.1,d) :: post,e∈pre++post∨e=(e0.1,d):=fun e he=>by
       rcases List.mem_append.1 he with he|he
       ·exact .inl (List.mem_append_left _ he)
       ·rcases List.mem_cons.1 he with he|he
        ·exact .inr he
        ·exact .inl (List.mem_append_right _ he)
      obtain ⟨md,hd1',hd2',hd3',hd4'⟩:=hP.nc
      have hf:NdF (S2.nd (Zi Z c)) G2 k { n with es:=pre++(e0.1,d) :: post }:=by
       have hasc2:=hasc
       unfold AscE at hasc2
       rw[hes] at hasc2
       refine ⟨ho.f.lv,?_,fun e he=>?_,fun _=>hne,fun _ e he=>?_,fun _=>?_,fun _ e he=>?_⟩
       ·show List.Pairwise _ _
        rw[List.pairwise_append,List.pairwise_cons] at hasc2 ⊢
        refine ⟨hasc2.1,⟨fun e he=>hasc2.2.1.1 e he,hasc2.2.1.2⟩,fun a ha q hq=>?_⟩
        rcases List.mem_cons.1 hq with rfl|hq
        ·exact hasc2.2.2 a ha e0 List.mem_cons_self
        ·exact hasc2.2.2 a ha q (List.mem_cons_of_mem _ hq)
       ·rcases hmem e he with he|rfl
        ·exact ho.f.rng e (hen e he)
        ·exact ho.f.rng e0 hee
       ·rcases hmem e he with he|rfl
        ·obtain ⟨m',q1,q2,q3,q4⟩:=ho.f.kid hl0 e (hen e he)
         obtain ⟨w1,w2,w3,w4,w5,-⟩:=hlab e he
         exact ⟨m',w1.trans q1,q2,by rw[w5,q3,hK],by rw[w3];exact q4⟩
        ·exact ⟨md,hd1',by show md.lv+1=n.lv;omega,hd4',fun y hy=>hm4 y (hP.sub y hy)⟩
       ·show List.Pairwise _ _
        rw[List.pairwise_append,List.pairwise_cons]
        refine ⟨sp3.imp_of_mem (fun {e e'} he _ hr y hy=>hr y (by rw[(hlab e (List.mem_append_left _ he)).2.2.1] at hy;exact hy)),⟨fun e he y hy=>sp2 e he y (hP.sub y hy),sp4.imp_of_mem (fun {e e'} he _ hr y hy=>hr y (by rw[(hlab e (List.mem_append_right _ he)).2.2.1] at hy;exact hy))⟩,fun a ha q hq y hy=>?_⟩
        rw[(hlab a (List.mem_append_left _ ha)).2.2.1] at hy
        rcases List.mem_cons.1 hq with rfl|hq
        ·exact sp1 a ha y hy
        ·exact sp5 a ha q hq y hy
       ·rcases hmem e he with he|rfl
        ·rw[(hlab e he).2.2.1]
         exact ho.f.kn hl0 e (hen e he)
        ·rw[(hP.inv.nd d md hd1').a]
         obtain ⟨z,zl,hz⟩:=List.exists_cons_of_ne_nil (show md.es≠[] by rw[hd3'];exact hde)
         exact List.ne_nil_of_mem (aOf_mem.2 (.inl ⟨z,by rw[hz];exact List.mem_cons_self,rfl⟩))
      have i2:=hP.inv.perm (rs':=kids { n with es:=pre++(e0.1,d) :: post } ++rs) (pd':=dats k { n with es:=pre++(e0.1,d) :: post } ++(dv k w++pd)) (fun u=>by rw[hk2];simp only[List.count_append,List.count_cons];omega) (fun q=>by rw[hd2];rfl)
      have hlen2:(pre++(e0.1,d) :: post).length=n.es.length:=by simp;omega
      have hpP:G2.P d≤G.P e0.2:=by
       have hoe:=h.nd e0.2 m hm1
       have hod:=hP.inv.nd d md hd1'
       have e1:G2.P d=4 ^ md.lv * (G2.L d - 4)+G2.T d:=by rw[hod.p,pOf_t,hod.l,hod.t]
       have e2:G.P e0.2=4 ^ m.lv * (G.L e0.2 - 4)+G.T e0.2:=by rw[hoe.p,pOf_t,hoe.l,hoe.t]
       have h1:=hP.len
       have h2:=hP.potT
       rw[e1,e2,hd2',show m.lv=l by omega]
       have h3:4 ^ l * (G2.L d - 4)≤4 ^ l * (G.L e0.2 - 4):=Nat.mul_le_mul_left _ (by omega)
       omega
      have hpQ:G2.Q d≤G.Q e0.2+1:=by
       have hoe:=h.nd e0.2 m hm1
       have hod:=hP.inv.nd d md hd1'
       have e1:G2.Q d=4 ^ md.lv * (4 - G2.L d)+G2.U d:=by rw[hod.q,qOf_u,hod.l,hod.w]
       have e2:G.Q e0.2=4 ^ m.lv * (4 - G.L e0.2)+G.U e0.2:=by rw[hoe.q,qOf_u,hoe.l,hoe.w]
       have h1:=hP.len
       have h2:=hP.potU
       rw[e1,e2,hd2',show m.lv=l by omega]
       have h3:4 ^ l * (4 - G2.L d)≤4 ^ l * (4 - G.L e0.2)+4 ^ l * (G.L e0.2 - G2.L d):=by
        rw[←Nat.mul_add]
        exact Nat.mul_le_mul_left _ (by omega)
       omega
      have hh:=remC_close (n2:={ n with es:=pre++(e0.1,d) :: post }) (L:=delE (G.E b) key) (A:=G.A b) (t:=G.T b) (u:=G.U b) (w:=G.L b) i2 o5 hc3 hf (by show (pre++(e0.1,d) :: post).length≤7;omega) hkeep2 (by
       unfold eOf
       rw[if_neg hl0]
       dsimp only
       rw[List.flatMap_append,List.flatMap_cons,flatMap_congr' (l:=pre) (fun e he=>(hlab e (List.mem_append_left _ he)).2.1),flatMap_congr' (l:=post) (fun e he=>(hlab e (List.mem_append_right _ he)).2.1),hdE,hP.con]
       simp) (fun y hy=>by
        rw[ho.a]
        rcases aOf_mem.1 hy with ⟨e,he,rfl⟩| ⟨-,e,he,hy⟩
        ·rcases hmem e he with he|rfl
         ·exact aOf_mem.2 (.inl ⟨e,hen e he,rfl⟩)
         ·exact aOf_mem.2 (.inl ⟨e0,hee,rfl⟩)
        ·rcases hmem e he with he|rfl
         ·rw[(hlab e he).2.2.1] at hy
          exact aOf_mem.2 (.inr ⟨hl0,e,hen e he,hy⟩)
         ·exact aOf_mem.2 (.inr ⟨hl0,e0,hee,hP.sub y hy⟩)) (by rw[ho.l];show (pre++(e0.1,d) :: post).length≤_;omega) (by
       unfold tOf
       rw[if_neg hl0]
       dsimp only
       rw[List.map_append,List.map_cons,List.sum_append,List.sum_cons,List.map_congr_left (l:=pre) (fun e he=>(hlab e (List.mem_append_left _ he)).2.2.2.1),List.map_congr_left (l:=post) (fun e he=>(hlab e (List.mem_append_right _ he)).2.2.2.1),hbP]
       dsimp only
       omega) (by
       unfold uOf
       rw[if_neg hl0,ho.l]
       dsimp only
       rw[List.map_append,List.map_cons,List.sum_append,List.sum_cons,List.map_congr_left (l:=pre) (fun e he=>(hlab e (List.mem_append_left _ he)).2.2.2.2.2),List.map_congr_left (l:=post) (fun e he=>(hlab e (List.mem_append_right _ he)).2.2.2.2.2),hbQ,hlen2]
       dsimp only
       simp only[Nat.sub_self,Nat.mul_zero]
       omega) (by
       have h1:=hP.fr
       show S.bl.free≤S2.bl.free+(n.lv+1)
       omega)
      rw[←hl]
      exact hh
end
end
end Go.Proofs.YtplhdjdkobddnaaGreat
