/- CtJ CtK SmA -/
import Derived.Test.YtplhdjdkobddnaaGreatTr13
set_option linter.unusedVariables false
set_option maxRecDepth 100000
set_option maxHeartbeats 40000000
namespace Go.Proofs.YtplhdjdkobddnaaGreat
section
def St.lop:Nat→St→Nat→Option (Nat × St)
 |0,S,b=>some (b,S)
 |l+1,S,b=>match S.load b with
  |none=>none
  |some n=>if n.es.length=1 then St.lop l { S with bl:=S.bl.dec b } (n.es[0]?.getD (0,0)).2 else some (b,S)
def St.delete (S:St) (k:Bool) (key:Int) (r:Nat):Option (Nat × St):=
 match S.load r with
 |none=>none
 |some n=>match S.rem k key n.lv r n with
  |none=>none
  |some (c,_,S1)=>S1.lop n.lv c
section
variable {S:St} {Z:Nat→Bool} {rs pd:List Nat} {G:Gh} {b c:Nat} {n:Nd} {k:Bool} {key:Int} {v:Nat}
theorem Keep.trans {S1 S2:St} {G1 G2:Gh} (h:Keep S S1 Z rs G G1) (q:Keep S1 S2 Z rs G1 G2):Keep S S2 Z rs G G2:=
 ⟨q.dk.trans h.dk,q.sq.trans h.sq,q.bo.trans h.bo,q.bn.trans h.bn,q.dl.trans h.dl,q.do_.trans h.do_,fun r hr=>(q.nd r hr).trans (h.nd r hr),fun r hr=>by
  obtain ⟨a1,a2,a3,a4⟩:=q.gh r hr
  obtain ⟨b1,b2,b3,b4⟩:=h.gh r hr
  exact ⟨a1.trans b1,a2.trans b2,a3.trans b3,a4.trans b4⟩,fun r hr=>by
  obtain ⟨a1,a2,a3,a4⟩:=q.gh2 r hr
  obtain ⟨b1,b2,b3,b4⟩:=h.gh2 r hr
  exact ⟨a1.trans b1,a2.trans b2,a3.trans b3,a4.trans b4⟩,fun u hu=>⟨(q.zk u hu).1.trans (h.zk u hu).1,(q.zk u hu).2.trans (h.zk u hu).2⟩⟩
theorem delN_len (l:List (Int × Nat)) (i:Nat):l.length≤(delN l i).length+1:=by
 unfold delN
 rw[List.length_append,List.length_take,List.length_drop]
 omega
theorem rem_len:∀(l:Nat) (S:St) (b:Nat) (n:Nd),∀{c:Nat} {es:List (Int × Nat)} {S':St},S.rem k key l b n=some (c,es,S')→n.es.length≤es.length+1:=by
 intro l S b n c es S' h
 rcases l with _|l
 ·unfold St.rem at h
  split at h
  ·cases h
  ·injection h with h
   injection h with h1 h2
   injection h2 with h2 h3
   rw[←h2]
   exact delN_len _ _
 ·unfold St.rem at h
  split at h
  ·cases h
  ·split at h
   ·cases h
   ·split at h
    ·cases h
    ·split at h
     ·injection h with h
      injection h with h1 h2
      injection h2 with h2 h3
      rw[←h2]
      exact delN_len _ _
     ·injection h with h
      injection h with h1 h2
      injection h2 with h2 h3
      rw[←h2,List.length_set]
      omega
theorem Inv.lopped (h:Inv S Z (c :: rs) pd G) (hn:S.nd Z c=some n) (h1:S.bl.count c=1) (hl:n.lv≠0) {e:Int × Nat} (he:n.es= [e]) :
  Inv { S with bl:=S.bl.dec c } Z (e.2 :: rs) pd G∧Keep S { S with bl:=S.bl.dec c } Z rs G G∧S.bl.free≤(S.bl.dec c).free∧∀u,u≠c→St.nd { S with bl:=S.bl.dec c } Z u=S.nd Z u:=by
 obtain ⟨q1,q2,q3⟩:=nd_count hn
 have hlt:=nd_lt hn
 have h2:=h.out (S':=S) hn h1 rfl rfl (.inl rfl) (fun u _ _=>rfl) (fun e=>absurd rfl e) h1 (fun _=>rfl) rfl rfl
 have hk:kids n= [e.2]:=by unfold kids;rw[if_neg hl,he];rfl
 have hd:dats (G.K c) n= []:=by unfold dats;rw[if_neg (fun e=>hl e.1)]
 rw[hk,hd] at h2
 obtain ⟨a1,a2,a3,a4⟩:=h2.give q2 h1
 have hct:=h.ct c q2
 rw[List.count_cons_self] at hct
 have hrc:∀r∈rs,r≠c:=fun r hr e=>by
  have:=List.count_pos_iff.2 (e▸hr)
  omega
 have hnn:∀u,u≠c→St.nd { S with bl:=S.bl.dec c } Z u=S.nd Z u:=fun u hu=>by rw[a4,nd_Zi hu]
 refine ⟨a1,⟨rfl,rfl,rfl,Mp.setN_len _ _ _,rfl,rfl,fun r hr=>hnn r (hrc r hr),fun _ _=>⟨rfl,rfl,rfl,rfl⟩,fun _ _=>⟨rfl,rfl,rfl,rfl⟩,fun u hu=>⟨?_,rfl⟩⟩,free_dec _ _ hlt,hnn⟩
 have:u≠c:=by rintro rfl;rw[q2] at hu;cases hu
 show (S.bl.dec c).count u=_
 rw[Mp.count_dec hlt,if_neg this]
 rfl
theorem rem_top {r w:Nat} (h:Inv S Z (r :: rs) pd G) (hn:S.nd Z r=some n) (hK:G.K r=k) (hr2:n.lv≠0→2≤n.es.length) (hw:lookE (G.E r) key=some w) :
  match S.rem k key n.lv r n with
  |none=>S.bl.free<n.lv+1
  |some (c,es,S')=>∃G',RemC S S' Z rs (dv k w++pd) G G' n.lv k c es (delE (G.E r) key) (G.A r) (G.T r) (G.U r) (G.L r)∧(n.lv≠0→es≠[]):=by
 have hh:=rem_ok n.lv S Z rs pd G r n w h hn rfl hK hw
 rcases hq:S.rem k key n.lv r n with _| ⟨c,es,S'⟩
 ·rw[hq] at hh
  exact hh
 ·rw[hq] at hh
  dsimp only at hh ⊢
  obtain ⟨G',hO,hC⟩:=hh
  have hlen:=rem_len n.lv S r n hq
  by_cases he:es= []
  ·have hl:n.lv=0:=by
    rcases Nat.eq_zero_or_pos n.lv with h0|h0
    ·exact h0
    ·have:=hr2 (by omega)
     rw[he] at hlen
     simp at hlen
     omega
   have hR:=hO he
   rw[hl] at hq
   unfold St.rem at hq
   rcases ht:S.touch r n k with _| ⟨c1,S1⟩
   ·rw[ht] at hq;cases hq
   ·rw[ht] at hq
    dsimp only at hq
    injection hq with hq
    injection hq with e1 e2
    injection e2 with e2 e3
    subst e1
    rw[e2,he] at e3
    have hpp:S'.put c1 { n with es:=[] } =S':=by
     rw[←e3]
     unfold St.put
     dsimp only
     congr 1
     funext u
     split
     ·rfl
     ·rfl
    have hk0:kids { n with es:=([]:List (Int × Nat)) } = []:=by unfold kids;split <;> rfl
    have hd0:dats k { n with es:=([]:List (Int × Nat)) } = []:=by unfold dats;split <;> rfl
    have i1:Inv S' (Zi Z c1) (kids { n with es:=[] } ++rs) (dats k { n with es:=[] } ++(dv k w++pd)) G':=by rw[hk0,hd0];exact hR.inv
    have hh:=remC_close (n2:={ n with es:=[] }) (L:=delE (G.E r) key) (A:=G.A r) (t:=G.T r) (u:=G.U r) (w:=G.L r) i1 hR.cz hR.c1
     ⟨(h.nd r n hn).f.lv,List.Pairwise.nil,(fun e he=>by cases he),(fun q=>absurd hl q),(fun q=>absurd hl q),(fun q=>absurd hl q),(fun q=>absurd hl q)⟩ (by simp) hR.keep (by rw[hR.con];unfold eOf;split <;> rfl) (fun y hy=>by
      rcases aOf_mem.1 hy with ⟨e,he,-⟩| ⟨q,-⟩
      ·cases he
      ·exact absurd hl q) (by simp) (by unfold tOf;rw[if_pos hl];omega) (by
      unfold uOf
      rw[if_pos hl]
      show 0+4 ^ n.lv * (G.L r - 0)≤_
      rw[hl]
      have:=(h.nd r n hn).l
      rw[he] at hlen
      simp at hlen ⊢
      omega) (by
      have:=hR.fr
      show S.bl.free≤S'.bl.free+(n.lv+1)
      omega)
    rw[hpp] at hh
    rw[he]
    exact ⟨_,hh,fun q=>absurd hl q⟩
  ·exact ⟨G',hC he,fun _=>he⟩
theorem hP_two {l:Nat} (h:l≠0):32≤hP (l+1):=by
 obtain ⟨l,rfl⟩:=Nat.exists_eq_succ_of_ne_zero h
 show 32≤hP l+(if l=0 then 8 else 6 * 4 ^ l)+(if l+1=0 then 8 else 6 * 4 ^ (l+1))
 rw[if_neg (Nat.succ_ne_zero _)]
 split
 ·rename_i h;subst h;decide
 ·have:4 ^ (l+1)=4 * 4 ^ l:=by rw[Nat.pow_succ];omega
  have h4:4≤4 ^ l:=by
   rename_i h
   obtain ⟨l,rfl⟩:=Nat.exists_eq_succ_of_ne_zero h
   rw[Nat.pow_succ]
   have:=Nat.pow_pos (n:=l) (show 0<4 by omega)
   omega
  omega
theorem delete_ok {r w:Nat} (h:Inv S Z (r :: rs) pd G) (hn:S.nd Z r=some n) (hK:G.K r=k) (hr2:n.lv≠0→2≤n.es.length) (hb:rP G r n.lv+rQ G r n.lv<59) (hw:lookE (G.E r) key=some w) :
  match S.delete k key r with
  |none=>S.bl.free<n.lv+1
  |some (t,S')=>∃G' m,TopP S S' Z rs (dv k w++pd) G G' k t (delE (G.E r) key) (n.lv+1)∧S'.nd Z t=some m∧(m.lv≠0→2≤m.es.length)∧rP G' t m.lv≤rP G r n.lv∧rQ G' t m.lv≤rQ G r n.lv+1:=by
 unfold St.delete
 rw[(nd_count hn).2.2]
 dsimp only
 have hh:=rem_top h hn hK hr2 hw
 rcases hq:S.rem k key n.lv r n with _| ⟨c,es,S1⟩
 ·rw[hq] at hh
  exact hh
 ·rw[hq] at hh
  dsimp only at hh ⊢
  obtain ⟨G1,hC,hne⟩:=hh
  obtain ⟨m,m1,m2,m3,m4⟩:=hC.nc
  have hom:=hC.inv.nd c m m1
  have hLr:=(h.nd r n hn).l
  have pP:rP G1 c n.lv≤rP G r n.lv:=by
   have h1:=hC.potT
   have h2:=hC.len
   unfold rP
   split
   ·omega
   ·have:4 ^ n.lv * (G1.L c - 2)≤4 ^ n.lv * (G.L r - 2):=Nat.mul_le_mul_left _ (by omega)
    omega
  have pQ:rQ G1 c n.lv≤rQ G r n.lv+1:=by
   have h1:=hC.potU
   have h2:=hC.len
   unfold rQ
   split
   ·omega
   ·have:4 ^ n.lv * (2 - G1.L c)≤4 ^ n.lv * (2 - G.L r)+4 ^ n.lv * (G.L r - G1.L c):=by
     rw[←Nat.mul_add]
     exact Nat.mul_le_mul_left _ (by omega)
    omega
  have stay:(m.lv≠0→2≤m.es.length)→∃G' m,TopP S S1 Z rs (dv k w++pd) G G' k c (delE (G.E r) key) (n.lv+1)∧S1.nd Z c=some m∧(m.lv≠0→2≤m.es.length)∧rP G' c m.lv≤rP G r n.lv∧rQ G' c m.lv≤rQ G r n.lv+1:=fun hs=>
   ⟨G1,m,⟨hC.inv,hC.keep,m4,hC.con,hC.fr⟩,m1,hs,by rw[m2];exact pP,by rw[m2];exact pQ⟩
  rcases hl:n.lv with _|l
  ·unfold St.lop
   dsimp only
   rw[hl] at stay
   exact stay (fun q=>absurd (m2.trans hl) q)
  ·rw[St.lop,(nd_count m1).2.2]
   dsimp only
   have hml:m.lv≠0:=by omega
   have hmne:m.es≠[]:=by rw[m3];exact hne (by omega)
   by_cases h1:m.es.length=1
   ·rw[if_pos h1]
    obtain ⟨e,he⟩:=List.length_eq_one_iff.1 h1
    obtain ⟨a1,a2,a3,a4⟩:=hC.inv.lopped m1 hC.c1 hml he
    have hee:(m.es[0]?.getD (0,0)).2=e.2:=by rw[he];rfl
    rw[hee]
    obtain ⟨x,x1,x2,x3,x4⟩:=hom.f.kid hml e (by rw[he];exact List.mem_cons_self)
    have hec:e.2≠c:=fun q=>by
     rw[q,m1] at x1
     injection x1 with x1
     rw[x1] at x2
     omega
    have hx:=(a4 e.2 hec).trans x1
    have hox:=a1.nd e.2 x hx
    have hlc:G1.L c=1:=hom.l.trans h1
    have hTc:G1.T c=G1.P e.2:=by rw[hom.t];unfold tOf;rw[if_neg hml,he];simp
    have hUc:G1.U c=G1.Q e.2:=by rw[hom.w];unfold uOf;rw[if_neg hml,he];simp
    have hPe:G1.P e.2=4 ^ x.lv * (G1.L e.2 - 4)+G1.T e.2:=by rw[hox.p,pOf_t,hox.l,hox.t]
    have hQe:G1.Q e.2=4 ^ x.lv * (4 - G1.L e.2)+G1.U e.2:=by rw[hox.q,qOf_u,hox.l,hox.w]
    have hxl:x.lv=l:=by omega
    rw[hxl] at hPe hQe
    have hx2:x.lv≠0→2≤x.es.length:=fun hx0=>by
     rcases Nat.lt_or_ge x.es.length 2 with hs|hs
     ·exfalso
      have hxn:=hox.f.ne hx0
      have hx1:x.es.length=1:=by
       have:=List.length_pos_iff.2 hxn
       omega
      have hLe:G1.L e.2=1:=hox.l.trans hx1
      have g1:=hP_two (l:=l) (by omega)
      have g2:hP (l+1)≤rP G1 c n.lv:=by unfold rP;rw[hl];omega
      have g3:4 ^ (l+1)+3 * 4 ^ l≤rQ G1 c n.lv:=by
       unfold rQ
       rw[hl,if_neg (Nat.succ_ne_zero _),hlc,hUc,hQe,hLe]
       omega
      have g4:4 ^ (l+1)=4 * 4 ^ l:=by rw[Nat.pow_succ];omega
      have g5:4≤4 ^ l:=by
       obtain ⟨l',rfl⟩:=Nat.exists_eq_succ_of_ne_zero (show l≠0 by omega)
       rw[Nat.pow_succ]
       have:=Nat.pow_pos (n:=l') (show 0<4 by omega)
       omega
      omega
     ·exact hs
    have hlop:St.lop l { S1 with bl:=S1.bl.dec c } e.2=some (e.2,{ S1 with bl:=S1.bl.dec c }):=by
     clear hPe hQe
     rcases Nat.eq_zero_or_pos l with h0|h0
     ·subst h0;rfl
     ·obtain ⟨l',rfl⟩:=Nat.exists_eq_succ_of_ne_zero (show l≠0 by omega)
      rw[St.lop,(nd_count hx).2.2]
      dsimp only
      rw[if_neg (by have:=hx2 (by omega);omega)]
    rw[hlop]
    dsimp only
    refine ⟨G1,x,⟨a1,hC.keep.trans a2,by rw[x3,m4],?_,?_⟩,hx,hx2,?_,?_⟩
    ·rw[←hC.con,hom.e]
     unfold eOf
     rw[if_neg hml,he]
     simp
    ·have:=hC.fr
     show S.bl.free≤(S1.bl.dec c).free+_
     omega
    ·rw[hl] at pP
     refine Nat.le_trans ?_ pP
     unfold rP
     rw[hxl,if_neg (Nat.succ_ne_zero _),hlc,hTc,hPe]
     show _≤hP l+(if l=0 then 8 else 6 * 4 ^ l)+_+_
     by_cases h0:l=0
     ·rw[if_pos h0,if_pos h0,h0]
      omega
     ·rw[if_neg h0,if_neg h0]
      have:4 ^ l * (G1.L e.2 - 2)≤4 ^ l * (G1.L e.2 - 4)+4 ^ l * 2:=by
       rw[←Nat.mul_add]
       exact Nat.mul_le_mul_left _ (by omega)
      omega
    ·rw[hl] at pQ
     refine Nat.le_trans ?_ pQ
     unfold rQ
     rw[hxl,if_neg (Nat.succ_ne_zero _),hlc,hUc,hQe]
     by_cases h0:l=0
     ·rw[if_pos h0]
      omega
     ·rw[if_neg h0]
      have h5:=hx2 (by omega)
      have h6:=hox.l
      rw[show 2 - G1.L e.2=0 by omega]
      omega
   ·rw[if_neg h1]
    dsimp only
    rw[hl] at stay
    exact stay (fun _=>by
     have:=List.length_pos_iff.2 hmne
     omega)
end
end
section
def Mp.decs (m:Mp) (l:List Nat):Mp:=l.foldl Mp.dec m
def St.drop (k:Bool):Nat→St→Nat→Option St
 |0,S,b=>if 1<S.bl.count b then some { S with bl:=S.bl.dec b } else match S.load b with
  |none=>none
  |some n=>some { S with bl:=S.bl.dec b,da:=S.da.decs (dats k n) }
 |l+1,S,b=>if 1<S.bl.count b then some { S with bl:=S.bl.dec b } else match S.load b with
  |none=>none
  |some n=>n.es.foldlM (fun S e=>St.drop k l S e.2) { S with bl:=S.bl.dec b }
def St.empty (S:St):Option (Nat × St):=match S.bl.pick with
 |none=>none
 |some c=>some (c,({ S with bl:=S.bl.setN c 1 }:St).put c ⟨0,0,[]⟩)
section
variable {S:St} {Z:Nat→Bool} {rs pd:List Nat} {G:Gh} {b c:Nat} {n:Nd} {k:Bool} {key:Int} {v:Nat}
theorem Inv.unref (h:Inv S Z (b :: rs) pd G) (h1:1<S.bl.count b):Inv { S with bl:=S.bl.dec b } Z rs pd G∧(∀u,St.nd { S with bl:=S.bl.dec b } Z u=S.nd Z u)∧Keep S { S with bl:=S.bl.dec b } Z rs G G∧S.bl.free≤(S.bl.dec b).free:=by
 have hlt:b<S.bl.now.length:=Mp.lt_of_count (by omega)
 have hcn:∀u,(S.bl.dec b).count u=S.bl.count u - if u=b then 1 else 0:=Mp.count_dec hlt
 have hl1:(S.bl.dec b).now.length=S.bl.now.length:=Mp.setN_len _ _ _
 have hnz:∀u,(S.bl.dec b).count u=0↔S.bl.count u=0:=fun u=>by
  rw[hcn]
  by_cases e:u=b
  ·subst e;rw[if_pos rfl];omega
  ·rw[if_neg e];omega
 have nn:∀u,St.nd { S with bl:=S.bl.dec b } Z u=S.nd Z u:=fun u=>by
  by_cases hz:S.bl.count u=0∨Z u=true
  ·rw[show S.nd Z u=none from if_pos hz]
   exact if_pos (hz.imp (hnz u).2 id)
  ·rw[show S.nd Z u=S.load u from if_neg hz]
   exact if_neg (fun q=>hz (q.imp (hnz u).1 id))
 have rr:∀u,St.refs { S with bl:=S.bl.dec b } Z u=S.refs Z u:=fun u=>by
  unfold St.refs
  dsimp only
  rw[hl1]
  exact sumR_congr _ (fun w _=>by rw[nn w])
 have dd:∀u,St.drefs { S with bl:=S.bl.dec b } Z G u=S.drefs Z G u:=fun u=>by
  unfold St.drefs
  dsimp only
  rw[hl1]
  exact sumR_congr _ (fun w _=>by rw[nn w])
 have hzb:Z b=false:=by
  rcases hz:Z b with _|_
  ·rfl
  ·have:=(h.zz b hz).1
   rw[List.count_cons_self] at this
   omega
 refine ⟨⟨by show S.bl.old.length=_;rw[hl1];exact h.ln,fun u hu hz=>h.ld u (fun e=>hu ((hnz u).2 e)) hz,fun u m hm=>?_,fun u hz=>?_,fun u hz=>?_,fun u hz=>?_,fun d=>by rw[dd];exact h.dt d⟩,nn,⟨rfl,rfl,rfl,hl1,rfl,rfl,fun r _=>nn r,fun _ _=>⟨rfl,rfl,rfl,rfl⟩,fun _ _=>⟨rfl,rfl,rfl,rfl⟩,fun u hu=>⟨?_,rfl⟩⟩,free_dec _ _ hlt⟩
 ·rw[nn u] at hm
  exact (h.nd u m hm).cong (fun x _=>nn x)
 ·have h2:=h.ct u hz
  rw[List.count_cons] at h2
  show (S.bl.dec b).count u=_
  rw[hcn,rr]
  by_cases e:u=b
  ·subst e
   simp at h2 ⊢
   omega
  ·rw[if_neg e]
   have e2:(b == u)=false:=by simp;exact fun q=>e q.symm
   rw[e2] at h2
   simp at h2
   omega
 ·have h2:=h.zz u hz
  rw[List.count_cons] at h2
  rw[rr]
  omega
 ·exact fun e=>h.zc u hz ((hnz u).1 e)
 ·have:u≠b:=by rintro rfl;rw[hzb] at hu;cases hu
  show (S.bl.dec b).count u=_
  rw[hcn,if_neg this]
  rfl
theorem Inv.ref (h:Inv S Z rs pd G) (hn:S.nd Z b=some n):Inv { S with bl:=S.bl.inc b } Z (b :: rs) pd G∧(∀u,St.nd { S with bl:=S.bl.inc b } Z u=S.nd Z u)∧Keep S { S with bl:=S.bl.inc b } Z rs G G∧S.bl.free≤(S.bl.inc b).free:=by
 obtain ⟨q1,q2,q3⟩:=nd_count hn
 have hlt:=nd_lt hn
 have hcn:∀u,(S.bl.inc b).count u=S.bl.count u+if u=b then 1 else 0:=Mp.count_inc hlt
 have hl1:(S.bl.inc b).now.length=S.bl.now.length:=Mp.setN_len _ _ _
 have hnz:∀u,(S.bl.inc b).count u=0↔S.bl.count u=0:=fun u=>by
  rw[hcn]
  by_cases e:u=b
  ·subst e;rw[if_pos rfl];omega
  ·rw[if_neg e];omega
 have nn:∀u,St.nd { S with bl:=S.bl.inc b } Z u=S.nd Z u:=fun u=>by
  by_cases hz:S.bl.count u=0∨Z u=true
  ·rw[show S.nd Z u=none from if_pos hz]
   exact if_pos (hz.imp (hnz u).2 id)
  ·rw[show S.nd Z u=S.load u from if_neg hz]
   exact if_neg (fun q=>hz (q.imp (hnz u).1 id))
 have rr:∀u,St.refs { S with bl:=S.bl.inc b } Z u=S.refs Z u:=fun u=>by
  unfold St.refs
  dsimp only
  rw[hl1]
  exact sumR_congr _ (fun w _=>by rw[nn w])
 have dd:∀u,St.drefs { S with bl:=S.bl.inc b } Z G u=S.drefs Z G u:=fun u=>by
  unfold St.drefs
  dsimp only
  rw[hl1]
  exact sumR_congr _ (fun w _=>by rw[nn w])
 refine ⟨⟨by show S.bl.old.length=_;rw[hl1];exact h.ln,fun u hu hz=>h.ld u (fun e=>hu ((hnz u).2 e)) hz,fun u m hm=>?_,fun u hz=>?_,fun u hz=>?_,fun u hz=>?_,fun d=>by rw[dd];exact h.dt d⟩,nn,⟨rfl,rfl,rfl,hl1,rfl,rfl,fun r _=>nn r,fun _ _=>⟨rfl,rfl,rfl,rfl⟩,fun _ _=>⟨rfl,rfl,rfl,rfl⟩,fun u hu=>⟨?_,rfl⟩⟩,?_⟩
 ·rw[nn u] at hm
  exact (h.nd u m hm).cong (fun x _=>nn x)
 ·have h2:=h.ct u hz
  show (S.bl.inc b).count u=_
  rw[hcn,rr,List.count_cons]
  by_cases e:u=b
  ·subst e
   simp
   omega
  ·rw[if_neg e]
   have e2:(b == u)=false:=by simp;exact fun q=>e q.symm
   rw[e2]
   simp
   omega
 ·have h2:=h.zz u hz
  have:b≠u:=by rintro rfl;rw[q2] at hz;cases hz
  have e2:(b == u)=false:=by simp;exact this
  rw[List.count_cons,rr,e2]
  simp
  exact h2
 ·exact fun e=>h.zc u hz ((hnz u).1 e)
 ·have:u≠b:=by rintro rfl;rw[q2] at hu;cases hu
  show (S.bl.inc b).count u=_
  rw[hcn,if_neg this]
  rfl
 ·refine free_mono hl1 (fun u hu=>?_)
  unfold Mp.isFree at hu ⊢
  have h3:=of_decide_eq_true hu
  exact decide_eq_true ⟨(hnz u).2 h3.1,h3.2⟩
theorem Inv.da (h:Inv S Z rs pd G) {m:Mp} {pd':List Nat} (hd:∀d,m.count d+pd.count d=S.da.count d+pd'.count d):Inv { S with da:=m } Z rs pd' G:=
 ⟨h.ln,h.ld,h.nd,h.ct,h.zz,h.zc,fun d=>by
  have h1:=h.dt d
  have h2:=hd d
  show m.count d=_+St.drefs S Z G d
  omega⟩
theorem Mp.decs_len (l:List Nat):∀m:Mp,(m.decs l).now.length=m.now.length∧(m.decs l).old=m.old:=by
 induction l with
 |nil=>intro m;exact ⟨rfl,rfl⟩
 |cons b l ih=>
  intro m
  obtain ⟨h1,h2⟩:=ih (m.dec b)
  exact ⟨h1.trans (Mp.setN_len _ _ _),h2.trans (Mp.setN_old _ _ _)⟩
theorem Mp.count_decs (l:List Nat):∀m:Mp,(∀b∈l,b<m.now.length)→∀u,(m.decs l).count u=m.count u - l.count u:=by
 induction l with
 |nil=>intro m _ u;simp[Mp.decs]
 |cons b l ih=>
  intro m h u
  have h1:=ih (m.dec b) (fun c hc=>by rw[Mp.dec,Mp.setN_len];exact h c (List.mem_cons_of_mem _ hc)) u
  rw[show m.decs (b :: l)=(m.dec b).decs l from rfl,h1,Mp.count_dec (h b List.mem_cons_self),List.count_cons]
  by_cases e:u=b
  ·subst e;simp;omega
  ·have e':¬b=u:=fun q=>e q.symm
   simp[e,e']
theorem Inv.decs {l:List Nat} (h:Inv S Z rs (l++pd) G):Inv { S with da:=S.da.decs l } Z rs pd G:=by
 have hlt:∀d∈l,d<S.da.now.length:=fun d hd=>by
  have h1:=h.dt d
  rw[List.count_append] at h1
  have:=List.count_pos_iff.2 hd
  exact Mp.lt_of_count (by omega)
 refine h.da (fun d=>?_)
 have h1:=h.dt d
 rw[Mp.count_decs l _ hlt,List.count_append]
 rw[List.count_append] at h1
 omega
theorem drop_ok:∀(l:Nat) (S:St) (b:Nat) (n:Nd) (rs:List Nat),Inv S Z (b :: rs) pd G→S.nd Z b=some n→n.lv=l→G.K b=k→
  ∃S',St.drop k l S b=some S'∧Inv S' Z rs pd G∧Keep S S' Z rs G G∧S.bl.free≤S'.bl.free:=by
 intro l
 induction l with
 |zero=>
  intro S b n rs h hn hl hK
  unfold St.drop
  obtain ⟨q1,q2,q3⟩:=nd_count hn
  by_cases h1:1<S.bl.count b
  ·rw[if_pos h1]
   obtain ⟨a1,-,a3,a4⟩:=h.unref h1
   exact ⟨_,rfl,a1,a3,a4⟩
  ·rw[if_neg h1,q3]
   dsimp only
   have hc1:S.bl.count b=1:=by omega
   have h2:=h.out (S':=S) hn hc1 rfl rfl (.inl rfl) (fun u _ _=>rfl) (fun e=>absurd rfl e) hc1 (fun _=>rfl) rfl rfl
   have hk:kids n= []:=by unfold kids;rw[if_pos hl]
   rw[hk,hK] at h2
   obtain ⟨a1,a2,a3,a4⟩:=h2.give q2 hc1
   have a5:=a1.decs
   have hct:=h.ct b q2
   rw[List.count_cons_self] at hct
   have hlt:=nd_lt hn
   have hrc:∀r∈rs,r≠b:=fun r hr e=>by
    have:=List.count_pos_iff.2 (e▸hr)
    omega
   obtain ⟨d1,d2⟩:=Mp.decs_len (dats k n) S.da
   refine ⟨_,rfl,a5,⟨rfl,rfl,rfl,Mp.setN_len _ _ _,d1,d2,fun r hr=>?_,fun _ _=>⟨rfl,rfl,rfl,rfl⟩,fun _ _=>⟨rfl,rfl,rfl,rfl⟩,fun u hu=>⟨?_,rfl⟩⟩,free_dec _ _ hlt⟩
   ·exact (a4 r).trans (nd_Zi (hrc r hr))
   ·have:u≠b:=by rintro rfl;rw[q2] at hu;cases hu
    show (S.bl.dec b).count u=_
    rw[Mp.count_dec hlt,if_neg this]
    rfl
 |succ l ih=>
  intro S b n rs h hn hl hK
  rw[St.drop]
  obtain ⟨q1,q2,q3⟩:=nd_count hn
  have hl0:n.lv≠0:=by omega
  by_cases h1:1<S.bl.count b
  ·rw[if_pos h1]
   obtain ⟨a1,-,a3,a4⟩:=h.unref h1
   exact ⟨_,rfl,a1,a3,a4⟩
  ·rw[if_neg h1,q3]
   dsimp only
   have hc1:S.bl.count b=1:=by omega
   have h2:=h.out (S':=S) hn hc1 rfl rfl (.inl rfl) (fun u _ _=>rfl) (fun e=>absurd rfl e) hc1 (fun _=>rfl) rfl rfl
   have hk:kids n=n.es.map Prod.snd:=by unfold kids;rw[if_neg hl0]
   have hd:dats (G.K b) n= []:=by unfold dats;rw[if_neg (fun e=>hl0 e.1)]
   rw[hk,hd] at h2
   obtain ⟨a1,a2,a3,a4⟩:=h2.give q2 hc1
   have hct:=h.ct b q2
   rw[List.count_cons_self] at hct
   have hlt:=nd_lt hn
   have hrc:∀r∈rs,r≠b:=fun r hr e=>by
    have:=List.count_pos_iff.2 (e▸hr)
    omega
   have hkp:Keep S { S with bl:=S.bl.dec b } Z rs G G:=⟨rfl,rfl,rfl,Mp.setN_len _ _ _,rfl,rfl,fun r hr=>(a4 r).trans (nd_Zi (hrc r hr)),fun _ _=>⟨rfl,rfl,rfl,rfl⟩,fun _ _=>⟨rfl,rfl,rfl,rfl⟩,fun u hu=>⟨by
    have:u≠b:=by rintro rfl;rw[q2] at hu;cases hu
    show (S.bl.dec b).count u=_
    rw[Mp.count_dec hlt,if_neg this]
    rfl,rfl⟩⟩
   have hkd:∀e∈n.es,∃m,St.nd { S with bl:=S.bl.dec b } Z e.2=some m∧m.lv=l∧G.K e.2=k:=fun e he=>by
    obtain ⟨m,m1,m2,m3,-⟩:=(h.nd b n hn).f.kid hl0 e he
    have hne:e.2≠b:=fun q=>by
     rw[q,hn] at m1
     injection m1 with m1
     rw[←m1] at m2
     omega
    exact ⟨m,(a4 _).trans ((nd_Zi hne).trans m1),by omega,by rw[m3,hK]⟩
   have key:∀(es:List (Int × Nat)) (S1:St),Inv S1 Z (es.map Prod.snd++rs) pd G→(∀e∈es,∃m,S1.nd Z e.2=some m∧m.lv=l∧G.K e.2=k)→
     ∃S',es.foldlM (fun S e=>St.drop k l S e.2) S1=some S'∧Inv S' Z rs pd G∧Keep S1 S' Z rs G G∧S1.bl.free≤S'.bl.free:=by
    intro es
    induction es with
    |nil=>
     intro S1 i1 _
     exact ⟨S1,rfl,i1,Keep.refl _ _ _ _,Nat.le_refl _⟩
    |cons e es ihe=>
     intro S1 i1 hm
     obtain ⟨m,m1,m2,m3⟩:=hm e List.mem_cons_self
     obtain ⟨S2,d1,d2,d3,d4⟩:=ih S1 e.2 m (es.map Prod.snd++rs) i1 m1 m2 m3
     obtain ⟨S3,e1,e2,e3,e4⟩:=ihe S2 d2 (fun x hx=>by
      obtain ⟨m,m1,m2,m3⟩:=hm x (List.mem_cons_of_mem _ hx)
      exact ⟨m,(d3.nd x.2 (List.mem_append_left _ (List.mem_map_of_mem hx))).trans m1,m2,m3⟩)
     refine ⟨S3,?_,e2,?_,Nat.le_trans d4 e4⟩
     ·rw[List.foldlM_cons,d1]
      exact e1
     ·refine Keep.trans ⟨d3.dk,d3.sq,d3.bo,d3.bn,d3.dl,d3.do_,fun r hr=>d3.nd r (List.mem_append_right _ hr),fun _ _=>⟨rfl,rfl,rfl,rfl⟩,fun _ _=>⟨rfl,rfl,rfl,rfl⟩,d3.zk⟩ e3
   obtain ⟨S3,e1,e2,e3,e4⟩:=key n.es _ a1 hkd
   exact ⟨S3,e1,e2,hkp.trans e3,Nat.le_trans (free_dec _ _ hlt) e4⟩
theorem empty_ok (h:Inv S Z rs pd G) (k:Bool) :
  match S.empty with
  |none=>S.bl.free=0
  |some (c,S')=>∃G',TopP S S' Z rs pd G G' k c [] 1∧S'.nd Z c=some ⟨0,S.seq,[]⟩∧rP G' c 0=0∧rQ G' c 0=0:=by
 unfold St.empty
 rcases hp:S.bl.pick with _|c
 ·exact Mp.pick_none hp
 ·dsimp only
  obtain ⟨a1,a2,a3,a4,a5,a6,a7⟩:=h.alloc hp
  obtain ⟨p1,p2,p3⟩:=Mp.pick_some hp
  have hk0:kids ⟨0,0,[]⟩= []:=rfl
  have hd0:dats k ⟨0,0,[]⟩= []:=by unfold dats;split <;> rfl
  have a1':Inv { S with bl:=S.bl.setN c 1 } (Zi Z c) (kids ⟨0,0,[]⟩ ++rs) (dats k ⟨0,0,[]⟩ ++pd) G:=by rw[hk0,hd0];exact a1
  obtain ⟨c1,c2,c3⟩:=Inv.close (S:={ S with bl:=S.bl.setN c 1 }) (n:=⟨0,0,[]⟩) (k:=k) (rs:=rs) (pd:=pd) a1' a5 (show (S.bl.setN c 1).count c≠0 by rw[a3];omega) a3 ⟨by decide,List.Pairwise.nil,(fun e he=>by cases he),(fun q=>absurd rfl q),(fun q=>absurd rfl q),(fun q=>absurd rfl q),(fun q=>absurd rfl q)⟩ (by decide)
  obtain ⟨s1,s2,s3,s4⟩:=set_same (G:=G) (c:=c) (n:=⟨0,0,[]⟩) (k:=k)
  obtain ⟨w1,w2,w3,w4⟩:=set_same2 (G:=G) (c:=c) (n:=⟨0,0,[]⟩) (k:=k)
  have hrt:∀u∈rs,u≠c:=fun u hu q=>by
   have h1:=h.ct c a5
   have h2:=List.count_pos_iff.2 (q▸hu)
   omega
  have hzt:∀u,Z u=true→u≠c:=fun u hu q=>by rw[q,a5] at hu;cases hu
  refine ⟨_,⟨c1,⟨rfl,rfl,rfl,a2.bn,rfl,rfl,fun u hu=>(c3 u (hrt u hu)).trans (a7 u),fun u hu=>set_other (hrt u hu),fun u hu=>set_other2 (hrt u hu),fun u hu=>⟨?_,?_⟩⟩,s4,s1,?_⟩,c2,?_,?_⟩
  ·show (S.bl.setN c 1).count u=_
   rw[Mp.count_setN p1,if_neg (hzt u hu)]
  ·show (if u=c then _ else _)=_
   rw[if_neg (hzt u hu)]
  ·have:=count_free hp
   show S.bl.free≤(S.bl.setN c 1).free+1
   omega
  ·unfold rP
   rw[w1,w2]
   rfl
  ·unfold rQ
   rw[w4]
   rfl
theorem sumR_bound {f:Nat→Nat} {c:Nat}:∀(n:Nat),(∀w,w<n→f w≤c)→sumR n f≤c * n
 |0,_=>Nat.le_refl _
 |n+1,h=>by
  rw[sumR_succ,Nat.mul_succ]
  have:=sumR_bound n (fun w hw=>h w (by omega))
  have:=h n (by omega)
  omega
theorem Inv.small (h:Inv S Z rs pd G) (u:Nat) (hz:Z u=false):S.bl.count u≤rs.length+7 * S.bl.now.length:=by
 have h1:=h.ct u hz
 have h2:S.refs Z u≤7 * S.bl.now.length:=sumR_bound _ (fun w _=>by
  rcases hw:S.nd Z w with _|m
  ·exact Nat.zero_le _
  ·have h3:=(h.nd w m hw).ln
   have h4:(kids m).length≤m.es.length:=by unfold kids;split <;> simp
   have h5:(kids m).count u≤(kids m).length:=List.count_le_length
   show (kids m).count u≤7
   omega)
 have h3:rs.count u≤rs.length:=List.count_le_length
 omega
theorem Inv.dsmall (h:Inv S Z rs pd G) (d:Nat):S.da.count d≤pd.length+7 * S.bl.now.length:=by
 have h1:=h.dt d
 have h2:S.drefs Z G d≤7 * S.bl.now.length:=sumR_bound _ (fun w _=>by
  rcases hw:S.nd Z w with _|m
  ·exact Nat.zero_le _
  ·have h3:=(h.nd w m hw).ln
   have h4:(dats (G.K w) m).length≤m.es.length:=by unfold dats;split <;> simp
   have h5:(dats (G.K w) m).count d≤(dats (G.K w) m).length:=List.count_le_length
   show (dats (G.K w) m).count d≤7
   omega)
 have h3:pd.count d≤pd.length:=List.count_le_length
 omega
end
end
section
open Go.RowKit
attribute [local go_sem] Oper.semAt_some
def nv (l:List Nat):List Value:=l.map fun n:Nat=>.int .i64 (n:Int)
theorem nv_length (l:List Nat):(nv l).length=l.length:=by simp[nv]
theorem nv_at (l:List Nat) (i:Nat) (h:i<l.length):(nv l)[i]? =some (.int .i64 ((l[i]?.getD 0:Nat):Int)):=by simp[nv,h]
theorem nv_set (l:List Nat) (i x:Nat):(nv l).set i (.int .i64 (x:Int))=nv (l.set i x):=by simp[nv,List.map_set]
theorem nv_one (l:List Nat):∀u∈nv l,u.oneCell'=true:=by
 intro u hu
 obtain ⟨x,_,rfl⟩:=List.mem_map.1 hu
 rfl
structure MP where
 p:Nat
 gn:Nat
 cn:Nat
 go:Nat
 co:Nat
structure MapIn (W:World) (K:MP) (m:Mp):Prop where
 cs:Cs W K.p 147 #[.slice (some ⟨K.gn,0,none⟩) m.now.length K.cn,.slice (some ⟨K.go,0,none⟩) m.now.length K.co]
 rn:W.ownsRow 0 3 1 (.slice (some ⟨K.gn,0,none⟩) m.now.length K.cn) m.now.length (nv m.now)
 ro:W.ownsRow 0 3 1 (.slice (some ⟨K.go,0,none⟩) m.now.length K.co) m.now.length (nv m.old)
 ln:m.old.length=m.now.length
 ne:K.gn≠K.go
 sm:∀b,m.count b≤65535
 lt:m.now.length≤16384
def MP.has (K:MP) (j:Nat):Prop:=j=K.p∨j=K.gn∨j=K.go
section
variable {W W':World} {K:MP} {m:Mp} {G:Nat→Prop}
theorem MapIn.fr (h:MapIn W K m) (hf:Fr G W W') (hn:∀j,K.has j→¬G j):MapIn W' K m:=
 ⟨h.cs.fr hf (hn _ (.inl rfl)),own_fr h.rn hf (fun b hb=>by simp[Value.ownBlock] at hb;rw[←hb];exact hn _ (.inr (.inl rfl))),own_fr h.ro hf (fun b hb=>by simp[Value.ownBlock] at hb;rw[←hb];exact hn _ (.inr (.inr rfl))),h.ln,h.ne,h.sm,h.lt⟩
theorem MapIn.keep (h:MapIn W K m) (hb:Below W.heap.size W W'):MapIn W' K m:=h.fr (G:=fun _=>False) (Fr.of_below hb) (fun _ _ h=>h)
theorem MapIn.rne (h:MapIn W K m):K.gn≠K.p∧K.go≠K.p:=⟨cs_own_ne h.cs h.rn (by decide) _ rfl,cs_own_ne h.cs h.ro (by decide) _ rfl⟩
theorem MapIn.bd (h:MapIn W K m):K.p<W.heap.size∧K.gn<W.heap.size∧K.go<W.heap.size:=⟨h.cs.lt,own_lt h.rn _ rfl,own_lt h.ro _ rfl⟩
theorem MapIn.nowAt (h:MapIn W K m) {b:Nat} (hb:b<m.now.length):W.cell? ⟨K.gn,b,none⟩=some (.int .i64 ((m.count b:Nat):Int))∧W.frozen? ⟨K.gn,b,none⟩=false:=by
 have:=h.rn.cellAt b (by omega)
 rw[nv_at _ _ hb] at this
 exact ⟨this,h.rn.frozenAt b⟩
theorem MapIn.oldAt (h:MapIn W K m) {b:Nat} (hb:b<m.now.length):W.cell? ⟨K.go,b,none⟩=some (.int .i64 ((m.was b:Nat):Int)):=by
 have:=h.ro.cellAt b (by omega)
 rw[nv_at _ _ (by rw[h.ln];exact hb)] at this
 exact this
theorem MapIn.setN (h:MapIn W K m) {b:Nat} (hb:b<m.now.length) {x:Nat} (hx:x≤65535):MapIn (W.setCell ⟨K.gn,b,none⟩ (.int .i64 (x:Int))) K (m.setN b x):=by
 have hf:=fr_set W K.gn b (.int .i64 (x:Int))
 have hl:(m.setN b x).now.length=m.now.length:=Mp.setN_len _ _ _
 have hst:=(h.rn.stored b (.int .i64 (x:Int))).1
 rw[nv_set] at hst
 refine ⟨?_,?_,?_,by rw[hl];exact h.ln,h.ne,fun u=>?_,by rw[hl];exact h.lt⟩
 ·rw[hl];exact h.cs.fr hf (fun e=>h.rne.1 e.symm)
 ·rw[hl];exact hst
 ·rw[hl];exact own_fr h.ro hf (fun c hc e=>by simp[Value.ownBlock] at hc;exact h.ne (hc.trans e).symm)
 ·rw[Mp.count_setN hb]
  split
  ·exact hx
  ·exact h.sm u
end
theorem rat_any (A:Option Addr) (n c:Nat) (l:List Nat) (b:Nat) (W:World) (hn:l.length=n) (hA:Reads W A (nv l)) (hl:n≤1000000) :
  Calls Tryz.prog 143 #[.slice A n c,.int .i64 (b:Int)] W fun e w'=>e=.returned (.int .i64 ((l[b]?.getD 0:Nat):Int))∧W=w':=by
 have h0:¬(b:Int)<0:=by omega
 by_cases hb:b<n
 ·obtain ⟨g,off,rfl,hlt,hc⟩:=hA (by rw[nv_length];omega)
  have h1:=hc b _ (nv_at l b (by omega))
  have h2:¬(n:Int)≤(b:Int):=by omega
  obtain ⟨x,hx⟩ :∃x,l[b]?.getD 0=x:=⟨_,rfl⟩
  rw[hx] at h1 ⊢
  clear hc hx hA hn
  go_enter Tryz.func143,Tryz.ntmps143
  go_wp2_with fail
  go_ret
  exact ⟨rfl,rfl⟩
 ·have h1:l[b]?.getD 0=0:=by rw[List.getElem?_eq_none (by omega)];rfl
  rw[h1]
  have h2:(n:Int)≤(b:Int):=by omega
  clear hA hn
  go_enter Tryz.func143,Tryz.ntmps143
  go_wp2_with fail
  go_ret
  exact ⟨rfl,rfl⟩
section
variable {W:World} {K:MP} {m:Mp}
theorem rcount_any (h:MapIn W K m) (b:Nat) :
  Calls Tryz.prog 121 #[.pointer (some ⟨K.p,0,none⟩),.int .i64 (b:Int)] W fun e w'=>e=.returned (.int .i64 ((m.count b:Nat):Int))∧W=w':=by
 have x0:W.cell? ⟨K.p,0,none⟩=some (.slice (some ⟨K.gn,0,none⟩) m.now.length K.cn):=h.cs.cell 0
 have hat:=rat_any (some ⟨K.gn,0,none⟩) m.now.length K.cn m.now b W rfl (Reads.of_own h.rn) (by have:=h.lt;omega)
 change Calls _ _ _ _ (fun e w'=>e=.returned (.int .i64 ((m.count b:Nat):Int))∧_) at hat
 go_enter Tryz.func121,Tryz.ntmps121
 go_wp2_with fail
 go_at_call 143
 refine hat.mono ?_
 rintro e w' ⟨rfl,rfl⟩
 go_wp2_with fail
 go_ret
 exact ⟨rfl,rfl⟩
theorem rwas_any (h:MapIn W K m) (b:Nat) :
  Calls Tryz.prog 150 #[.pointer (some ⟨K.p,0,none⟩),.int .i64 (b:Int)] W fun e w'=>e=.returned (.int .i64 ((m.was b:Nat):Int))∧W=w':=by
 have x0:W.cell? ⟨K.p,1,none⟩=some (.slice (some ⟨K.go,0,none⟩) m.now.length K.co):=h.cs.cell 1
 have hat:=rat_any (some ⟨K.go,0,none⟩) m.now.length K.co m.old b W h.ln (Reads.of_own h.ro) (by have:=h.lt;omega)
 change Calls _ _ _ _ (fun e w'=>e=.returned (.int .i64 ((m.was b:Nat):Int))∧_) at hat
 go_enter Tryz.func150,Tryz.ntmps150
 go_wp2_with fail
 go_at_call 143
 refine hat.mono ?_
 rintro e w' ⟨rfl,rfl⟩
 go_wp2_with fail
 go_ret
 exact ⟨rfl,rfl⟩
def Mp.incE (m:Mp) (b:Nat):Int:=if m.now.length≤b then 1 else if m.count b=0 then 12 else if m.count b=65535 then 4 else 0
def Mp.decE (m:Mp) (b:Nat):Int:=if m.now.length≤b then 1 else if m.count b=0 then 12 else 0
theorem rinc_any (h:MapIn W K m) (b:Nat) :
  Calls Tryz.prog 86 #[.pointer (some ⟨K.p,0,none⟩),.int .i64 (b:Int)] W fun e w'=>e=.returned (.int .i64 (m.incE b))∧MapIn w' K (if m.incE b=0 then m.inc b else m)∧Fr (· =K.gn) W w':=by
 have x0:W.cell? ⟨K.p,0,none⟩=some (.slice (some ⟨K.gn,0,none⟩) m.now.length K.cn):=h.cs.cell 0
 have h0:¬(b:Int)<0:=by omega
 have H:=Hi h
 by_cases hb:b<m.now.length
 ·obtain ⟨x1,x2⟩:=h.nowAt hb
  have hne:=h.rne.1
  have hsm:=h.sm b
  have h2:¬((m.now.length:Nat):Int)≤(b:Int):=by omega
  have hE:m.incE b=if m.count b=0 then 12 else if m.count b=65535 then 4 else 0:=by unfold Mp.incE;rw[if_neg (by omega)]
  have hI:m.inc b=m.setN b (m.count b+1):=rfl
  obtain ⟨x,hx⟩ :∃x,m.count b=x:=⟨_,rfl⟩
  rw[hx] at x1 hsm hE hI
  by_cases c0:x=0
  ·subst c0
   rw[if_pos rfl] at hE
   rw[hE]
   clear hE hI
   go_enter Tryz.func86,Tryz.ntmps86
   go_wp2_with fail
   go_ret
   exact ⟨rfl,H.out,Fr.refl _ _⟩
  ·by_cases c1:x=65535
   ·subst c1
    rw[if_neg c0,if_pos rfl] at hE
    rw[hE]
    clear hE hI
    go_enter Tryz.func86,Tryz.ntmps86
    go_wp2_with fail
    go_ret
    exact ⟨rfl,H.out,Fr.refl _ _⟩
   ·rw[if_neg c0,if_neg c1] at hE
    rw[hE,if_pos rfl,hI]
    clear hE hI hx
    have d0:¬(x:Int)=0:=by omega
    have d1:¬(x:Int)=65535:=by omega
    have e1:IntKind.i64.wrap ((x:Int)+1)=((x+1:Nat):Int):=by rw[IntWalk.i64_in _ (by omega)];rfl
    have hx1:x+1≤65535:=by omega
    go_enter Tryz.func86,Tryz.ntmps86
    go_wp2_with fail
    go_ret
    exact ⟨rfl,H.out.setN hb hx1,fr_set _ _ _ _⟩
 ·have hE:m.incE b=1:=by unfold Mp.incE;rw[if_pos (by omega)]
  rw[hE]
  have h2:((m.now.length:Nat):Int)≤(b:Int):=by omega
  clear hE
  go_enter Tryz.func86,Tryz.ntmps86
  go_wp2_with fail
  go_ret
  exact ⟨rfl,H.out,Fr.refl _ _⟩
theorem rdec_any (h:MapIn W K m) (b:Nat) :
  Calls Tryz.prog 94 #[.pointer (some ⟨K.p,0,none⟩),.int .i64 (b:Int)] W fun e w'=>e=.returned (.int .i64 (m.decE b))∧MapIn w' K (if m.decE b=0 then m.dec b else m)∧Fr (· =K.gn) W w':=by
 have x0:W.cell? ⟨K.p,0,none⟩=some (.slice (some ⟨K.gn,0,none⟩) m.now.length K.cn):=h.cs.cell 0
 have h0:¬(b:Int)<0:=by omega
 have H:=Hi h
 by_cases hb:b<m.now.length
 ·obtain ⟨x1,x2⟩:=h.nowAt hb
  have hne:=h.rne.1
  have hsm:=h.sm b
  have h2:¬((m.now.length:Nat):Int)≤(b:Int):=by omega
  have hE:m.decE b=if m.count b=0 then 12 else 0:=by unfold Mp.decE;rw[if_neg (by omega)]
  have hI:m.dec b=m.setN b (m.count b - 1):=rfl
  obtain ⟨x,hx⟩ :∃x,m.count b=x:=⟨_,rfl⟩
  rw[hx] at x1 hsm hE hI
  by_cases c0:x=0
  ·subst c0
   rw[if_pos rfl] at hE
   rw[hE]
   clear hE hI
   go_enter Tryz.func94,Tryz.ntmps94
   go_wp2_with fail
   go_ret
   exact ⟨rfl,H.out,Fr.refl _ _⟩
  ·rw[if_neg c0] at hE
   rw[hE,if_pos rfl,hI]
   clear hE hI hx
   have d0:¬(x:Int)=0:=by omega
   have e1:IntKind.i64.wrap ((x:Int) - 1)=((x - 1:Nat):Int):=by rw[IntWalk.i64_in _ (by omega)];omega
   go_enter Tryz.func94,Tryz.ntmps94
   go_wp2_with fail
   go_ret
   exact ⟨rfl,H.out.setN hb (by omega),fr_set _ _ _ _⟩
 ·have hE:m.decE b=1:=by unfold Mp.decE;rw[if_pos (by omega)]
  rw[hE]
  have h2:((m.now.length:Nat):Int)≤(b:Int):=by omega
  clear hE
  go_enter Tryz.func94,Tryz.ntmps94
  go_wp2_with fail
  go_ret
  exact ⟨rfl,H.out,Fr.refl _ _⟩
end
end
end Go.Proofs.YtplhdjdkobddnaaGreat
