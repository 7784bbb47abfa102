/- CtO CtP CtQ StL -/
import Derived.Test.YtplhdjdkobddnaaGreatTr21
set_option linter.unusedVariables false
set_option maxRecDepth 100000
set_option maxHeartbeats 40000000
namespace Go.Proofs.YtplhdjdkobddnaaGreat
section
def St.dsc:List (Nat × Nat)→St→Bool × St
 | [],S=>(false,S)
 |(b,_) :: up,S=>match S.ch b with
  |none=>(false,S)
  |some n=>if n.es≠[] then (false,S) else match up with
   | []=>(true,S)
   |(b',i') :: _=>match S.ch b' with
    |none=>(false,S)
    |some n'=>St.dsc up (({ S with bl:=S.bl.dec b }:St).put b' { n' with es:=delN n'.es i' })
def St.leafRem (S:St) (key:Int) (b:Nat):St:=match S.ch b with
 |none=>S
 |some n=>S.put b { n with es:=delN n.es (findN n.es key).toNat }
def St.wholeR (k:Bool) (key:Int) (l:Nat) (T:St) (b:Nat) (n:Nd):Option (Nat × Bool × St):=match T.rt b n k with
 |none=>none
 |some (c,T1)=>match T1.way k false key l c n with
  |none=>none
  |some (st,T2)=>some (c,St.dsc st.reverse (T2.leafRem key (leafOf st)))
section
variable {S T:St} {Z:Nat→Bool} {rs pd:List Nat} {G:Gh} {b c:Nat} {n:Nd} {k:Bool} {key:Int} {v:Nat}
theorem dsc_snoc (d j i:Nat) {N:Nd} {f:Bool} {S1:St}:∀(l:List (Nat × Nat)) (S:St),l.getLast? =some (d,j)→St.dsc l S=(f,S1)→S1.ch b=some N→
  St.dsc (l++ [(b,i)]) S=if f=false then (false,S1) else (decide (delN N.es i= []),(({ S1 with bl:=S1.bl.dec d }:St).put b { N with es:=delN N.es i })):=by
 intro l
 induction l with
 |nil=>intro S h _ _;cases h
 |cons a l ih=>
  intro S hl hd hN
  obtain ⟨b0,i0⟩:=a
  show St.dsc ((b0,i0) :: (l++ [(b,i)])) S=_
  unfold St.dsc at hd ⊢
  rcases hb0:S.ch b0 with _|n0
  ·rw[hb0] at hd
   dsimp only at hd ⊢
   injection hd with h1 h2
   subst h1 h2
   rfl
  ·rw[hb0] at hd
   dsimp only at hd ⊢
   by_cases he:n0.es≠[]
   ·rw[if_pos he] at hd ⊢
    injection hd with h1 h2
    subst h1 h2
    rfl
   ·rw[if_neg he] at hd ⊢
    rcases l with _| ⟨⟨b1,i1⟩,l⟩
    ·dsimp only[List.nil_append] at hd ⊢
     simp at hl
     obtain ⟨rfl,rfl⟩:=hl
     injection hd with h1 h2
     subst h1 h2
     rw[hN]
     dsimp only
     unfold St.dsc
     rw[put_ch]
     dsimp only
     by_cases hq:delN N.es i= []
     ·simp[hq]
     ·simp[hq]
    ·rw[List.getLast?_cons_cons] at hl
     dsimp only[List.cons_append] at hd ⊢
     rcases hb1:S.ch b1 with _|n1
     ·rw[hb1] at hd
      dsimp only at hd ⊢
      injection hd with h1 h2
      subst h1 h2
      rfl
     ·rw[hb1] at hd
      dsimp only at hd ⊢
      exact ih _ hl hd hN
theorem way_head {least:Bool} {l:Nat} {S:St} {c:Nat} {n:Nd} {st:List (Nat × Nat)} {S':St} (h:S.way k least key l c n=some (st,S')):∃j,st.head? =some (c,j):=by
 cases l with
 |zero=>
  unfold St.way at h
  injection h with h
  injection h with h _
  rw[←h]
  exact ⟨0,rfl⟩
 |succ l=>
  unfold St.way at h
  split at h
  ·cases h
  ·split at h
   ·cases h
   ·split at h
    ·cases h
    ·injection h with h
     injection h with h _
     rw[←h]
     exact ⟨_,rfl⟩
theorem delN_set (l:List (Int × Nat)) (i:Nat) (y:Int × Nat):delN (l.set i y) i=delN l i:=by
 unfold delN
 rw[List.take_set_of_le (Nat.le_refl _),List.drop_set_of_lt (by omega)]
theorem rem_whole:∀(l:Nat) (S T:St) (Z:Nat→Bool) (rs pd:List Nat) (G:Gh) (b:Nat) (n:Nd) (w:Nat),Inv S Z (b :: rs) pd G→S.nd Z b=some n→n.lv=l→G.K b=k→lookE (G.E b) key=some w→Off Z S T→
  match S.rem k key l b n with
  |none=>T.wholeR k key l b n=none
  |some (c,es,S')=>∃T' m f,T.wholeR k key l b n=some (c,f,T')∧f=decide (es= [])∧Off Z S' T'∧(∀u,Z u=true→T'.ch u=T.ch u)∧T'.ch c=some m∧m.es=es:=by
 intro l
 induction l with
 |zero=>
  intro S T Z rs pd G b n w h hn hl hK hw hT
  unfold St.rem St.wholeR St.rt
  rw[hT.touch]
  rcases ht:S.touch b n k with _| ⟨c,S1⟩
  ·rfl
  ·rw[Option.map_some]
   dsimp only
   rw[←hK] at ht
   obtain ⟨o1,o2,o3,o4,o5,o6⟩:=h.open hn ht
   obtain ⟨t1,t2⟩:=h.touched hn ht
   have hway:St.way k false key 0 (St.put { T with bl:=S1.bl,da:=S1.da } c n) c n=some ([(c,0)],St.put { T with bl:=S1.bl,da:=S1.da } c n):=by unfold St.way;rfl
   rw[hway]
   dsimp only
   have hlf:leafOf [(c,0)]=c:=rfl
   have hrv: [(c,0)].reverse= [(c,(0:Nat))]:=rfl
   rw[hlf,hrv]
   have hlp:(St.put { T with bl:=S1.bl,da:=S1.da } c n).leafRem key c=(St.put { T with bl:=S1.bl,da:=S1.da } c { n with es:=delN n.es (findN n.es key).toNat }):=by
    unfold St.leafRem
    rw[put_ch]
    dsimp only
    rw[put_put]
    rfl
   rw[hlp]
   have hd:St.dsc [(c,0)] (St.put { T with bl:=S1.bl,da:=S1.da } c { n with es:=delN n.es (findN n.es key).toNat })=(decide (delN n.es (findN n.es key).toNat= []),St.put { T with bl:=S1.bl,da:=S1.da } c { n with es:=delN n.es (findN n.es key).toNat }):=by
    unfold St.dsc
    rw[put_ch]
    dsimp only
    by_cases hq:delN n.es (findN n.es key).toNat= []
    ·simp[hq]
    ·simp[hq]
   rw[hd]
   refine ⟨_,_,_,rfl,rfl,⟨rfl,rfl,hT.dk.trans o2.dk.symm,hT.sq.trans o2.sq.symm,fun u hu=>?_⟩,fun u hu=>?_,put_ch _ _ _,rfl⟩
   ·by_cases e:u=c
    ·subst e
     rw[put_ch,put_ch]
     show some (Nd.mk _ T.seq _)=some (Nd.mk _ S1.seq _)
     rw[hT.sq.trans o2.sq.symm]
    ·rw[put_ne _ e,put_ne _ e,o2.ch]
     exact hT.ch u hu
   ·have e2:u≠c:=by rintro rfl;rw[o5] at hu;cases hu
    rw[put_ne _ e2]
 |succ l ih=>
  intro S T Z rs pd G b n w h hn hl hK hw hT
  have ho:=h.nd b n hn
  have hl0:n.lv≠0:=by omega
  have hasc:=ho.f.asc
  have eE:G.E b=n.es.flatMap (fun e=>G.E e.2):=by rw[ho.e];unfold eOf;rw[if_neg hl0]
  have hkE:∀e∈n.es,∀q∈G.E e.2,q.1∈G.A e.2∧e.1≤q.1:=fun e he q hq=>by
   obtain ⟨m',q1,q2,q3,q4⟩:=ho.f.kid hl0 e he
   have:=(h.keys m'.lv e.2 m' q1 rfl).1 q hq
   exact ⟨this,q4 _ this⟩
  have hwm:(key,w)∈G.E b:=by
   unfold lookE at hw
   rcases hf:(G.E b).find? (fun e=>decide (e.1=key)) with _|e
   ·rw[hf] at hw;cases hw
   ·rw[hf] at hw
    injection hw with hw
    have h1:=List.find?_some hf
    have h2:=List.mem_of_find?_eq_some hf
    simp at h1
    rw[←h1,←hw]
    exact h2
  obtain ⟨ek,hek,hwk⟩:=List.mem_flatMap.1 (eE▸hwm)
  have hle:=(hkE ek hek _ hwk).2
  rcases find_split hasc key with ⟨f1,f2⟩| ⟨pre,e0,post,hes,f2,f3,f4,f5⟩
  ·have:=f2 ek hek
   simp at hle
   omega
  ·have hfi:(findN n.es key).toNat=pre.length:=by rw[f2];simp
   have hnn:¬findN n.es key<0:=by rw[f2];omega
   obtain ⟨g1,g2,g3⟩:=take_len pre e0 post
   have hget:n.es[(findN n.es key).toNat]?.getD (0,0)=e0:=by rw[hfi,hes,g3];rfl
   have hee:e0∈n.es:=by rw[hes];simp
   have hpe:∀e∈pre,e∈n.es:=fun e he=>by rw[hes];exact List.mem_append_left _ he
   have hqe:∀e∈post,e∈n.es:=fun e he=>by rw[hes];exact List.mem_append_right _ (List.mem_cons_of_mem _ he)
   obtain ⟨m,hm1,hm2,hm3,hm4⟩:=ho.f.kid hl0 e0 hee
   rw[hK] at hm3
   have hsep:=ho.f.sep hl0
   rw[hes] at hsep
   obtain ⟨sp1,sp2,sp3,sp4,sp5⟩:=mem_lt hsep
   have hpreE:∀q∈pre.flatMap (fun e=>G.E e.2),q.1<key:=fun q hq=>by
    obtain ⟨e,he,hq⟩:=List.mem_flatMap.1 hq
    have:=sp1 e he q.1 (hkE e (hpe e he) q hq).1
    omega
   have hpostE:∀q∈post.flatMap (fun e=>G.E e.2),key<q.1:=fun q hq=>by
    obtain ⟨e,he,hq⟩:=List.mem_flatMap.1 hq
    have:=(hkE e (hqe e he) q hq).2
    have:=f5 e he
    omega
   have hEb:G.E b=pre.flatMap (fun e=>G.E e.2)++G.E e0.2++post.flatMap (fun e=>G.E e.2):=by rw[eE,hes];simp
   have hw0:lookE (G.E e0.2) key=some w:=by rw[hEb,lookE_app hpreE hpostE] at hw;exact hw
   unfold St.rem St.wholeR St.rt
   rw[hT.touch]
   rcases ht:S.touch b n k with _| ⟨c,S1⟩
   ·rfl
   ·rw[Option.map_some]
    dsimp only
    rw[hget]
    rw[←hK] at ht
    obtain ⟨o1,o2,o3,o4,o5,o6⟩:=h.open hn ht
    obtain ⟨t1,t2⟩:=h.touched hn ht
    obtain ⟨kp,hrs,hkk⟩:=h.keep_open hn ht
    have hdn:dats (G.K b) n= []:=by unfold dats;rw[if_neg (fun e=>hl0 e.1)]
    have hkn:kids n=pre.map Prod.snd++e0.2 :: post.map Prod.snd:=by unfold kids;rw[if_neg hl0,hes,List.map_append,List.map_cons]
    rw[hdn] at o1
    have i1:=o1.perm (rs':=e0.2 :: (pre.map Prod.snd++post.map Prod.snd++rs)) (pd':=pd) (fun u=>by rw[hkn];simp only[List.count_append,List.count_cons];omega) (fun d=>by simp)
    have hm1':S1.nd (Zi Z c) e0.2=some m:=by rw[(hkk _ (kid_mem hl0 hee)).2];exact hm1
    have hld:S1.load e0.2=some m:=(nd_count hm1').2.2
    have hce:e0.2≠c:=(hkk _ (kid_mem hl0 hee)).1
    have hze:Z e0.2=false:=(nd_count hm1).2.1
    rw[hld]
    dsimp only
    have hoff0:∀N:Nd,Off (Zi Z c) S1 (St.put { T with bl:=S1.bl,da:=S1.da } c N):=fun N=>by
     refine ⟨rfl,rfl,hT.dk.trans o2.dk.symm,hT.sq.trans o2.sq.symm,fun u hu=>?_⟩
     obtain ⟨z1,z2⟩:=Zi_false hu
     rw[put_ne _ z2,o2.ch]
     exact hT.ch u z1
    have hway:St.way k false key (l+1) (St.put { T with bl:=S1.bl,da:=S1.da } c n) c n=(match S1.touch e0.2 m k with
      |none=>none
      |some (d,S2)=>match St.way k false key l ((St.put (St.put { T with bl:=S2.bl,da:=S2.da } c n) d m).put c { n with es:=n.es.set (findN n.es key).toNat (e0.1,d) }) d m with
       |none=>none
       |some (st,T2)=>some ((c,(findN n.es key).toNat) :: st,T2)):=by
     conv=>lhs;unfold St.way
     rw[hget,(hoff0 n).load (by rw[Zi_ne hce];exact hze),hld]
     dsimp only
     unfold St.rt
     rw[(hoff0 n).touch]
     rcases S1.touch e0.2 m k with _| ⟨d,S2⟩
     ·rfl
     ·rw[Option.map_some]
      dsimp only
      rw[if_neg (fun r=>hnn r.1)]
      rfl
    rw[hway]
    rcases ht2:S1.touch e0.2 m k with _| ⟨d,S2⟩
    ·dsimp only
     have:S1.rem k key l e0.2 m=none:=by
      cases l
      ·unfold St.rem;rw[ht2]
      ·unfold St.rem;rw[ht2]
     rw[this]
    ·dsimp only
     have hcd:c≠d:=by
      have ht3:=ht2
      rw[←hm3] at ht3
      have:=(i1.open hm1' ht3).2.2.2.2.1
      rintro rfl
      rw[Zi_self] at this
      cases this
     have hT2:=hoff0 { n with es:=n.es.set (findN n.es key).toNat (e0.1,d) }
     have hih:=ih S1 _ (Zi Z c) (pre.map Prod.snd++post.map Prod.snd++rs) pd G e0.2 m w i1 hm1' (by omega) hm3 hw0 hT2
     have hio:=rem_ok (key:=key) l S1 (Zi Z c) (pre.map Prod.snd++post.map Prod.snd++rs) pd G e0.2 m w i1 hm1' (by omega) hm3 hw0
     have hst:(St.put (St.put { T with bl:=S2.bl,da:=S2.da } c n) d m).put c { n with es:=n.es.set (findN n.es key).toNat (e0.1,d) } =(St.put { T with bl:=S2.bl,da:=S2.da } c { n with es:=n.es.set (findN n.es key).toNat (e0.1,d) }).put d m:=by
      rw[put_comm _ hcd,put_put]
      exact (put_comm _ hcd _ _).symm
     have hwr:∀N:Nd,(St.put { T with bl:=S1.bl,da:=S1.da } c N).rt e0.2 m k=some (d,(St.put { T with bl:=S2.bl,da:=S2.da } c N).put d m):=fun N=>by
      unfold St.rt
      rw[(hoff0 N).touch,ht2,Option.map_some]
      rfl
     have hwh:∀N:Nd,St.wholeR k key l (St.put { T with bl:=S1.bl,da:=S1.da } c N) e0.2 m=match St.way k false key l ((St.put { T with bl:=S2.bl,da:=S2.da } c N).put d m) d m with
       |none=>none
       |some (st,T2)=>some (d,St.dsc st.reverse (T2.leafRem key (leafOf st))):=fun N=>by
      unfold St.wholeR
      rw[hwr]
     rw[hwh] at hih
     rw[hst]
     rcases hwq:St.way k false key l ((St.put { T with bl:=S2.bl,da:=S2.da } c { n with es:=n.es.set (findN n.es key).toNat (e0.1,d) }).put d m) d m with _| ⟨st,T2⟩
     ·rw[hwq] at hih
      dsimp only at hih ⊢
      rcases hiq:S1.rem k key l e0.2 m with _| ⟨d',es,S3⟩
      ·rfl
      ·rw[hiq] at hih
       dsimp only at hih
       obtain ⟨_,_,_,q,-⟩:=hih
       cases q
     ·rw[hwq] at hih
      have hsl:=way_len _ _ _ _ hwq
      have hst0:st≠[]:=by rintro rfl;simp at hsl
      dsimp only at hih ⊢
      rcases hiq:S1.rem k key l e0.2 m with _| ⟨d',es,S3⟩
      ·rw[hiq] at hih
       dsimp only at hih
       cases hih
      ·rw[hiq] at hih hio
       dsimp only at hih hio ⊢
       obtain ⟨T3,m3,f,q,hf,f2,f3,f4,f5⟩:=hih
       injection q with q
       injection q with q1 q
       subst q1
       obtain ⟨j,hhd⟩:=way_head hwq
       have hTc:T3.ch c=some { n with es:=n.es.set (findN n.es key).toNat (e0.1,d),sq:=T.seq }:=by rw[f3 c (Zi_self Z c),put_ch]
       have hlast:st.reverse.getLast? =some (d,j):=by rw[List.getLast?_reverse];exact hhd
       obtain ⟨G2,hRO,hRC⟩:=hio
       have hkz:Keep S1 S3 (Zi Z c) (pre.map Prod.snd++post.map Prod.snd++rs) G G2:=by
        by_cases he:es= []
        ·exact (hRO he).keep
        ·exact (hRC he).keep
       have hsq3:T.seq=S3.seq:=hT.sq.trans (o2.sq.symm.trans hkz.sq.symm)
       have hTz:∀u,Z u=true→T3.ch u=T.ch u:=fun u hu=>by
        have huc:u≠c:=by rintro rfl;rw[o5] at hu;cases hu
        rw[f3 u (by rw[Zi_ne huc];exact hu),put_ne _ huc]
       rw[leafOf_cons _ hst0,List.reverse_cons,dsc_snoc d j _ _ _ hlast q hTc]
       dsimp only
       by_cases he:es= []
       ·rw[if_pos he,hf]
        dsimp only
        rw[if_neg (by simp[he]),delN_set]
        refine ⟨_,_,_,rfl,rfl,⟨?_,f2.da,f2.dk,f2.sq,fun u hu=>?_⟩,fun u hu=>?_,put_ch _ _ _,rfl⟩
        ·show T3.bl.dec d=S3.bl.dec d
         rw[f2.bl]
        ·by_cases e:u=c
         ·subst e
          rw[put_ch,put_ch]
          show some (Nd.mk _ T3.seq _)=some (Nd.mk _ S3.seq _)
          rw[f2.sq]
         ·rw[put_ne _ e,put_ne _ e]
          exact f2.ch u (by rw[Zi_ne e];exact hu)
        ·have huc:u≠c:=by rintro rfl;rw[o5] at hu;cases hu
         rw[put_ne _ huc]
         exact hTz u hu
       ·rw[if_neg he,hf]
        dsimp only
        rw[if_pos (by simp[he])]
        have hne:n.es.set (findN n.es key).toNat (e0.1,d)≠[]:=by
         intro q
         have:=congrArg List.length q
         rw[List.length_set,hes] at this
         simp at this
        refine ⟨_,_,_,rfl,by simp[hne],⟨f2.bl,f2.da,f2.dk,f2.sq,fun u hu=>?_⟩,hTz,hTc,rfl⟩
        ·by_cases e:u=c
         ·subst e
          rw[hTc,put_ch]
          show some (Nd.mk _ T.seq _)=some (Nd.mk _ S3.seq _)
          rw[hsq3]
         ·rw[put_ne _ e]
          exact f2.ch u (by rw[Zi_ne e];exact hu)
end
end
section
def UnwOk:Nat→List (Nat × Nat)→St→Prop
 |_,[],_=>True
 |lv,(b,_) :: up,S=>S.bl.count b≠0∧(∃n,S.ch b=some n∧n.lv=lv∧n.es.length≤8)∧∀e t S1,S.halve b=some (e :: t,S1)→match up with
  | []=>True
  |(b',i') :: _=>(∃n',S1.ch b'=some n'∧i'<n'.es.length∧n'.es.length≤7)∧UnwOk (lv+1) up (S1.hang b' i' e)
section
variable {S T:St} {Z:Nat→Bool} {rs pd:List Nat} {G:Gh} {b c:Nat} {n:Nd} {k:Bool} {key:Int} {v:Nat}
theorem hang_ch {S:St} {b i:Nat} {e:Int × Nat} {n:Nd} (h:S.ch b=some n):S.hang b i e=S.put b { n with es:=n.es.take (i+1)++e :: n.es.drop (i+1) }:=by
 unfold St.hang
 rw[h]
theorem hang_len {n:Nd} {i:Nat} (e:Int × Nat) (h:i<n.es.length):(n.es.take (i+1)++e :: n.es.drop (i+1)).length=n.es.length+1:=by
 rw[List.length_append,List.length_cons,List.length_take,List.length_drop]
 omega
theorem unwOk_snoc (i:Nat):∀(l:List (Nat × Nat)) (S:St) (lv:Nat),UnwOk lv l S→l≠[]→(∀e t S1,St.unw l S=some (e :: t,S1)→S1.bl.count b≠0∧∃n',S1.ch b=some n'∧i<n'.es.length∧n'.es.length≤7∧n'.lv=lv+l.length)→UnwOk lv (l++ [(b,i)]) S:=by
 intro l
 induction l with
 |nil=>intro S lv _ h _;exact absurd rfl h
 |cons a l ih=>
  intro S lv hok _ hh
  obtain ⟨b0,i0⟩:=a
  obtain ⟨h1,h2,h3⟩:=hok
  show UnwOk lv ((b0,i0) :: (l++ [(b,i)])) S
  refine ⟨h1,h2,fun e t S1 hq=>?_⟩
  have h4:=h3 e t S1 hq
  unfold St.unw at hh
  rw[hq] at hh
  dsimp only at hh
  rcases l with _| ⟨⟨b1,i1⟩,l⟩
  ·dsimp only[List.nil_append] at hh ⊢
   obtain ⟨q1,n',q2,q3,q4,q5⟩:=hh e [] S1 rfl
   refine ⟨⟨n',q2,q3,q4⟩,?_,⟨{ n' with es:=n'.es.take (i+1)++e :: n'.es.drop (i+1),sq:=S1.seq },by rw[hang_ch q2];exact put_ch _ _ _,q5,by show (n'.es.take (i+1)++e :: n'.es.drop (i+1)).length≤8;rw[hang_len e q3];omega⟩,fun e t S1 _=>trivial⟩
   rw[hang_ch q2]
   exact q1
  ·dsimp only[List.cons_append] at hh h4 ⊢
   refine ⟨h4.1,?_⟩
   exact ih _ (lv+1) h4.2 (List.cons_ne_nil _ _) (fun e' t' S2 hq2=>by
    obtain ⟨q1,n',q2,q3,q4,q5⟩:=hh e' t' S2 hq2
    refine ⟨q1,n',q2,q3,q4,?_⟩
    rw[q5]
    simp
    omega)
theorem way_ne {least:Bool} {l:Nat} {S:St} {c:Nat} {n:Nd} {st:List (Nat × Nat)} {S':St} (h:S.way k least key l c n=some (st,S')):st≠[]:=by
 have:=way_len _ _ _ _ h
 rintro rfl
 simp at this
theorem ins_unwOk (hkr:0≤key∧key<16777216):∀(l:Nat) (S T:St) (Z:Nat→Bool) (rs pd:List Nat) (G:Gh) (b:Nat) (n:Nd),Inv S Z (b :: rs) (dv k v++pd) G→S.nd Z b=some n→n.lv=l→G.K b=k→Off Z S T→
  ∀c T1 st T2,T.rt b n k=some (c,T1)→T1.way k true key l c n=some (st,T2)→UnwOk 0 st.reverse (T2.leafPut key v (leafOf st)):=by
 intro l
 induction l with
 |zero=>
  intro S T Z rs pd G b n h hn hl hK hT c T1 st T2 hq hw
  have ho:=h.nd b n hn
  unfold St.rt at hq
  rw[hT.touch] at hq
  rcases ht:S.touch b n k with _| ⟨c',S1⟩
  ·rw[ht] at hq;cases hq
  ·rw[ht,Option.map_some] at hq
   injection hq with hq
   injection hq with h1 h2
   subst h1 h2
   unfold St.way at hw
   injection hw with hw
   injection hw with h1 h2
   subst h1 h2
   rw[←hK] at ht
   obtain ⟨o1,o2,o3,o4,o5,o6⟩:=h.open hn ht
   have hlf:leafOf [(c',0)]=c':=rfl
   have hrv: [(c',0)].reverse= [(c',(0:Nat))]:=rfl
   rw[hlf,hrv]
   have hlp:(St.put { T with bl:=S1.bl,da:=S1.da } c' n).leafPut key v c'=(St.put { T with bl:=S1.bl,da:=S1.da } c' { n with es:=putN n.es key v }):=by
    unfold St.leafPut
    rw[put_ch]
    dsimp only
    rw[put_put]
    rfl
   dsimp only
   rw[hlp]
   have hlen:=insE_len (key:=key) (v:=v) ho.f.asc
   rw[←putN_eq ho.f.asc key v] at hlen
   have hl7:=ho.ln
   exact ⟨by show S1.bl.count c'≠0;omega,⟨_,put_ch _ _ _,hl,by show (putN n.es key v).length≤8;split at hlen <;> omega⟩,fun _ _ _ _=>trivial⟩
 |succ l ih=>
  intro S T Z rs pd G b n h hn hl hK hT c T1 st T2 hq hw
  have ho:=h.nd b n hn
  have hl0:n.lv≠0:=by omega
  have hne:=ho.f.ne hl0
  have hasc:=ho.f.asc
  obtain ⟨pre,e0,post,x,hes,hi,hx,hx1,hx2,hx3,hx4,hx5,hx6,hx7⟩:=ins_at hasc hne key
  obtain ⟨g1,g2,g3⟩:=take_len pre e0 post
  have hget:n.es[(findN n.es key).toNat]?.getD (0,0)=e0:=by rw[hi,hes,g3];rfl
  have hee:e0∈n.es:=by rw[hes];simp
  have hilt:(findN n.es key).toNat<n.es.length:=by rw[hi,hes];simp
  obtain ⟨m,hm1,hm2,hm3,hm4⟩:=ho.f.kid hl0 e0 hee
  rw[hK] at hm3
  unfold St.rt at hq
  rw[hT.touch] at hq
  rcases ht:S.touch b n k with _| ⟨c',S1⟩
  ·rw[ht] at hq;cases hq
  ·rw[ht,Option.map_some] at hq
   injection hq with hq
   injection hq with h1 h2
   subst h1 h2
   rw[←hK] at ht
   obtain ⟨o1,o2,o3,o4,o5,o6⟩:=h.open hn ht
   obtain ⟨kp,hrs,hkk⟩:=h.keep_open hn ht
   have hdn:dats (G.K b) n= []:=by unfold dats;rw[if_neg (fun e=>hl0 e.1)]
   have hkn:kids n=pre.map Prod.snd++e0.2 :: post.map Prod.snd:=by unfold kids;rw[if_neg hl0,hes,List.map_append,List.map_cons]
   rw[hdn] at o1
   have i1:=o1.perm (rs':=e0.2 :: (pre.map Prod.snd++post.map Prod.snd++rs)) (pd':=dv k v++pd) (fun u=>by rw[hkn];simp only[List.count_append,List.count_cons];omega) (fun d=>by simp)
   have hm1':S1.nd (Zi Z c') e0.2=some m:=by rw[(hkk _ (kid_mem hl0 hee)).2];exact hm1
   have hce:e0.2≠c':=(hkk _ (kid_mem hl0 hee)).1
   have hze:Z e0.2=false:=(nd_count hm1).2.1
   have hld:S1.load e0.2=some m:=(nd_count hm1').2.2
   have hoff0:∀N:Nd,Off (Zi Z c') S1 (St.put { T with bl:=S1.bl,da:=S1.da } c' N):=fun N=>by
    refine ⟨rfl,rfl,hT.dk.trans o2.dk.symm,hT.sq.trans o2.sq.symm,fun u hu=>?_⟩
    obtain ⟨z1,z2⟩:=Zi_false hu
    rw[put_ne _ z2,o2.ch]
    exact hT.ch u z1
   unfold St.way at hw
   rw[hget,(hoff0 n).load (by rw[Zi_ne hce];exact hze),hld] at hw
   dsimp only at hw
   unfold St.rt at hw
   rw[(hoff0 n).touch] at hw
   rcases ht2:S1.touch e0.2 m k with _| ⟨d,S2⟩
   ·rw[ht2] at hw
    cases hw
   ·rw[ht2,Option.map_some] at hw
    dsimp only at hw
    have hcd:c'≠d:=by
     have ht3:=ht2
     rw[←hm3] at ht3
     have:=(i1.open hm1' ht3).2.2.2.2.1
     rintro rfl
     rw[Zi_self] at this
     cases this
    generalize hN:({ n with es:=n.es.set (findN n.es key).toNat (if findN n.es key<0∧true=true then key else e0.1,d) }:Nd)=N at hw
    have e:(St.put (St.put { T with bl:=S2.bl,da:=S2.da } c' n) d m).put c' N=(St.put { T with bl:=S2.bl,da:=S2.da } c' N).put d m:=by
     rw[put_comm _ hcd,put_put]
     exact (put_comm _ hcd _ _).symm
    change (match St.way k true key l ((St.put (St.put { T with bl:=S2.bl,da:=S2.da } c' n) d m).put c' N) d m with|none=>none|some (st,S2)=>some ((c',(findN n.es key).toNat) :: st,S2))=some (st,T2) at hw
    rw[e] at hw
    rcases hwq:St.way k true key l ((St.put { T with bl:=S2.bl,da:=S2.da } c' N).put d m) d m with _| ⟨st',T3⟩
    ·rw[hwq] at hw
     cases hw
    ·rw[hwq] at hw
     injection hw with hw
     injection hw with h1 h2
     subst h1 h2
     have hst0:=way_ne hwq
     have hrt:(St.put { T with bl:=S1.bl,da:=S1.da } c' N).rt e0.2 m k=some (d,(St.put { T with bl:=S2.bl,da:=S2.da } c' N).put d m):=by
      unfold St.rt
      rw[(hoff0 N).touch,ht2,Option.map_some]
      rfl
     have hih:=ih S1 _ (Zi Z c') (pre.map Prod.snd++post.map Prod.snd++rs) pd G e0.2 m i1 hm1' (by omega) hm3 (hoff0 N) d _ st' T3 hrt hwq
     have hwl:=way_len _ _ _ _ hwq
     have hwh:=ins_whole (v:=v) hkr l S1 _ (Zi Z c') (pre.map Prod.snd++post.map Prod.snd++rs) pd G e0.2 m i1 hm1' (by omega) hm3 (hoff0 N)
     have hio:=ins_ok (v:=v) hkr l S1 (Zi Z c') (pre.map Prod.snd++post.map Prod.snd++rs) pd G e0.2 m i1 hm1' (by omega) hm3
     rw[leafOf_cons _ hst0,List.reverse_cons]
     refine unwOk_snoc _ _ _ _ hih (by simpa using hst0) (fun e' t' S4 hu=>?_)
     unfold St.whole at hwh
     rw[hrt] at hwh
     dsimp only at hwh
     rw[hwq] at hwh
     dsimp only at hwh
     rw[hu] at hwh
     rcases hiq:S1.ins k key v l e0.2 m with _| ⟨d',ex,S3⟩
     ·rw[hiq] at hwh
      cases hwh
     ·rw[hiq] at hwh hio
      dsimp only at hwh hio
      obtain ⟨T',q,f2,f3,f4⟩:=hwh
      injection q with q
      injection q with q1 q
      injection q with q2 q3
      subst q3
      obtain ⟨G2,hP⟩:=hio
      refine ⟨?_,{ N with sq:=T.seq },?_,?_,?_,?_⟩
      ·rw[f2.bl,(hP.keep.zk c' (Zi_self Z c')).1]
       omega
      ·rw[f3 c' (Zi_self Z c'),put_ch]
      ·rw[←hN]
       show _<(n.es.set _ _).length
       rw[List.length_set]
       exact hilt
      ·rw[←hN]
       show (n.es.set _ _).length≤7
       rw[List.length_set]
       exact ho.ln
      ·rw[←hN]
       show n.lv=_
       rw[List.length_reverse,hwl]
       omega
end
end
section
def St.wayR (T:St) (k least:Bool) (key:Int) (r:Nat) (n:Nd):Option (List (Nat × Nat) × St):=match T.rt r n k with
 |none=>none
 |some (c,T1)=>T1.way k least key n.lv c n
def headOf (st:List (Nat × Nat)):Nat:=(st.head?.getD (0,0)).1
section
variable {S T:St} {Z:Nat→Bool} {rs pd:List Nat} {G:Gh} {b c r:Nat} {n:Nd} {k:Bool} {key:Int} {v:Nat}
theorem whole_eq (hkr:0≤key∧key<16777216) (h:Inv S Z (r :: rs) (dv k v++pd) G) (hn:S.nd Z r=some n) (hK:G.K r=k):S.whole k key v n.lv r n=S.ins k key v n.lv r n:=by
 have h1:=ins_whole (v:=v) hkr n.lv S S Z rs pd G r n h hn rfl hK (Off.refl _ _)
 have h2:=ins_ok (v:=v) hkr n.lv S Z rs pd G r n h hn rfl hK
 rcases hq:S.ins k key v n.lv r n with _| ⟨d,ex,S'⟩
 ·rw[hq] at h1
  exact h1
 ·rw[hq] at h1 h2
  dsimp only at h1 h2
  obtain ⟨T',q,f1,f2,f3⟩:=h1
  obtain ⟨G',hP⟩:=h2
  rw[q,St.ext' f1.dk f1.bl f1.da f1.sq (fun u=>by
   rcases hz:Z u with _|_
   ·exact f1.ch u hz
   ·rw[f2 u hz,(hP.keep.zk u hz).2])]
theorem insert_unw (hkr:0≤key∧key<16777216) (h:Inv S Z (r :: rs) (dv k v++pd) G) (hn:S.nd Z r=some n) (hK:G.K r=k):S.insert k key v r=match S.wayR k true key r n with
  |none=>none
  |some (st,S1)=>match St.unw st.reverse (S1.leafPut key v (leafOf st)) with
   |none=>none
   |some (ex,S2)=>match ex with
    | []=>some (headOf st,S2)
    |e :: _=>if n.lv=8 then none else match S2.bl.pick with
     |none=>none
     |some t=>some (t,({ S2 with bl:=S2.bl.setN t 1 }:St).put t ⟨n.lv+1,0,[((((S2.load (headOf st)).map (fun m=>(m.es[0]?.getD (0,0)).1)).getD 0),headOf st),e]⟩):=by
 unfold St.insert
 rw[(nd_count hn).2.2]
 dsimp only
 rw[←whole_eq hkr h hn hK]
 unfold St.whole St.wayR
 rcases S.rt r n k with _| ⟨c,T1⟩
 ·rfl
 ·dsimp only
  rcases hw:T1.way k true key n.lv c n with _| ⟨st,T2⟩
  ·rfl
  ·dsimp only
   obtain ⟨j,hj⟩:=way_head hw
   have hh:headOf st=c:=by unfold headOf;rw[hj];rfl
   rw[hh]
   rcases St.unw st.reverse (T2.leafPut key v (leafOf st)) with _| ⟨ex,T3⟩
   ·rfl
   ·rcases ex with _| ⟨e,t⟩
    ·rfl
    ·rfl
theorem wayR_unwOk (hkr:0≤key∧key<16777216) (h:Inv S Z (r :: rs) (dv k v++pd) G) (hn:S.nd Z r=some n) (hK:G.K r=k) {st:List (Nat × Nat)} {S1:St} (hw:S.wayR k true key r n=some (st,S1)) :
  UnwOk 0 st.reverse (S1.leafPut key v (leafOf st))∧st.length=n.lv+1:=by
 unfold St.wayR at hw
 rcases hq:S.rt r n k with _| ⟨c,T1⟩
 ·rw[hq] at hw;cases hw
 ·rw[hq] at hw
  dsimp only at hw
  exact ⟨ins_unwOk hkr n.lv S S Z rs pd G r n h hn rfl hK (Off.refl _ _) c T1 st S1 hq hw,way_len _ _ _ _ hw⟩
theorem putN_len (l:List (Int × Nat)) (key:Int) (v:Nat):l.length≤(putN l key v).length:=by
 unfold putN
 split
 ·rw[List.length_set];exact Nat.le_refl _
 ·unfold insN
  simp
  omega
theorem rev_last (st:List (Nat × Nat)) (h:st≠[]):∃j up,st.reverse=(leafOf st,j) :: up∧up.reverse++ [(leafOf st,j)]=st:=by
 obtain ⟨⟨a,j⟩,hj⟩ :∃x,st.getLast? =some x:=by
  rcases hq:st.getLast? with _|x
  ·rw[List.getLast?_eq_none_iff] at hq;exact absurd hq h
  ·exact ⟨x,rfl⟩
 have hl:leafOf st=a:=by unfold leafOf;rw[hj];rfl
 rw[hl]
 have h1:st.reverse.head? =some (a,j):=by rw[List.head?_reverse];exact hj
 rcases hr:st.reverse with _| ⟨x,up⟩
 ·rw[hr] at h1;cases h1
 ·rw[hr] at h1
  injection h1 with h1
  subst h1
  refine ⟨j,up,rfl,?_⟩
  have:=congrArg List.reverse hr
  rw[List.reverse_reverse,List.reverse_cons] at this
  exact this.symm
theorem leaf_facts {st:List (Nat × Nat)} {S1:St} {lv:Nat} (h:UnwOk lv st.reverse (S1.leafPut key v (leafOf st))) (hst:st≠[]):∃m,S1.ch (leafOf st)=some m∧m.es.length≤8∧leafOf st<S1.bl.now.length∧S1.leafPut key v (leafOf st)=S1.put (leafOf st) { m with es:=putN m.es key v }:=by
 obtain ⟨j,up,hr,-⟩:=rev_last st hst
 rw[hr] at h
 obtain ⟨h1,⟨n',h2,h3,h4⟩,-⟩:=h
 rcases hc:S1.ch (leafOf st) with _|m
 ·unfold St.leafPut at h2
  rw[hc] at h2
  dsimp only at h2
  rw[hc] at h2
  cases h2
 ·have hp:S1.leafPut key v (leafOf st)=S1.put (leafOf st) { m with es:=putN m.es key v }:=by
   unfold St.leafPut
   rw[hc]
  rw[hp,put_ch] at h2
  injection h2 with h2
  rw[hp] at h1
  refine ⟨m,rfl,?_,Mp.lt_of_count h1,hp⟩
  rw[←h2] at h4
  have:=putN_len m.es key v
  change (putN m.es key v).length≤8 at h4
  omega
end
end
section
structure TouchPre (S:St) (b:Nat) (n:Nd) (k:Bool):Prop where
 c0:S.bl.count b≠0
 ok:1<S.bl.count b→TouchOk S b n k
 de:1<S.bl.count b→∀c,S.bl.pick=some c→((S.bl.setN c 1).incs (kids n)).decE b=0
 l8:n.es.length≤8
 lv:n.lv≤8
 vs:n.lv=0∨∀e∈n.es,e.2<S.bl.now.length
def WayOk (k least:Bool) (key:Int):Nat→St→Nat→Nd→Prop
 |0,S,c,n=>n.lv=0
 |l+1,S,c,n=>n.lv=l+1∧(findN n.es key).toNat<n.es.length∧c<S.bl.now.length∧∃m,(n.es[(findN n.es key).toNat]?.getD (0,0)).2<S.bl.now.length∧S.load (n.es[(findN n.es key).toNat]?.getD (0,0)).2=some m∧m.lv=l∧m.sq≤n.sq∧
  TouchPre S (n.es[(findN n.es key).toNat]?.getD (0,0)).2 m k∧∀d S1,S.rt (n.es[(findN n.es key).toNat]?.getD (0,0)).2 m k=some (d,S1)→d<S1.bl.now.length∧
   WayOk k least key l (S1.put c { n with es:=n.es.set (findN n.es key).toNat (if findN n.es key<0∧least=true then key else (n.es[(findN n.es key).toNat]?.getD (0,0)).1,d) }) d m
section
variable {S T:St} {Z:Nat→Bool} {rs pd:List Nat} {G:Gh} {b c:Nat} {n:Nd} {k:Bool} {key:Int} {v:Nat}
theorem TouchPre.off {T:St} (h:TouchPre S b n k) (hb:T.bl=S.bl) (hd:T.da=S.da):TouchPre T b n k:=by
 refine ⟨by rw[hb];exact h.c0,fun q=>?_,fun q=>?_,h.l8,h.lv,by rw[hb];exact h.vs⟩
 ·rw[hb] at q
  have h2:=h.ok q
  exact ⟨by rw[hb];exact h2.lt,by rw[hb];exact h2.bl,by rw[hd];exact h2.da,h2.vs⟩
 ·rw[hb] at q ⊢
  exact h.de q
theorem okInc_of {m:Mp} {l:List Nat} (h:∀x∈l,x<m.now.length∧m.count x≠0∧m.count x+l.length≤65535):OkInc m l:=by
 intro i x hx
 have hm:=List.mem_of_getElem? hx
 obtain ⟨h1,h2,h3⟩:=h x hm
 have hc:=Mp.count_incs (l.take i) m (fun b hb=>(h b (List.mem_of_mem_take hb)).1) x
 have hlt:i<l.length:=(List.getElem?_eq_some_iff.1 hx).1
 have ht:(l.take i).count x<l.length:=by
  have:=List.count_le_length (a:=x) (l:=l.take i)
  rw[List.length_take] at this
  omega
 unfold Mp.incE
 rw[(Mp.incs_len (l.take i) m).1,hc,if_neg (by omega),if_neg (by omega),if_neg (by omega)]
theorem Inv.pre (h:Inv S Z (b :: rs) pd G) (hn:S.nd Z b=some n) (hr:rs.length+7 * S.bl.now.length≤60000) (hp:pd.length+7 * S.bl.now.length≤60000) (hlen:S.bl.now.length≤16384):TouchPre S b n (G.K b):=by
 have ho:=h.nd b n hn
 obtain ⟨q1,q2,q3⟩:=nd_count hn
 have hlt:=nd_lt hn
 have hkl:(kids n).length≤7:=by
  have:=ho.ln
  unfold kids
  split <;> simp <;> omega
 have hkid:∀x∈kids n,x<S.bl.now.length∧S.bl.count x≠0∧S.bl.count x≤60001:=fun x hx=>by
  obtain ⟨m,hm⟩:=kids_nd ho.f hx
  have h1:=h.small x (nd_count hm).2.1
  rw[List.length_cons] at h1
  exact ⟨nd_lt hm,(nd_count hm).1,by omega⟩
 have hpk:∀c,S.bl.pick=some c→∀x∈kids n,(S.bl.setN c 1).count x=S.bl.count x:=fun c hc x hx=>by
  obtain ⟨p1,p2,p3⟩:=Mp.pick_some hc
  rw[Mp.count_setN p1,if_neg (by rintro rfl;exact (hkid x hx).2.1 p2)]
 have hdat:∀d∈dats (G.K b) n,d<S.da.now.length∧S.da.count d≠0∧S.da.count d≤60000:=fun d hd=>by
  have h1:=h.dt d
  have h2:=sumR_le (f:=fun w=>datN (G.K w) (S.nd Z w) d) (nd_lt hn)
  have h3:0<(dats (G.K b) n).count d:=List.count_pos_iff.2 hd
  rw[hn] at h2
  have h4:(dats (G.K b) n).count d≤S.drefs Z G d:=h2
  have h5:=h.dsmall d
  exact ⟨h.dats_lt hn d hd,by omega,by omega⟩
 refine ⟨q1,fun _=>⟨hlt,fun hl c hc=>?_,fun hl hk=>?_,fun e he=>?_⟩,fun _ c hc=>?_,by have:=ho.ln;omega,ho.f.lv,?_⟩
 ·have e1:kids n=n.es.map Prod.snd:=by unfold kids;rw[if_neg hl]
  rw[←e1]
  refine okInc_of (fun x hx=>?_)
  obtain ⟨a1,a2,a3⟩:=hkid x hx
  rw[hpk c hc x hx,Mp.setN_len]
  exact ⟨a1,a2,by omega⟩
 ·have e1:dats (G.K b) n=n.es.map (fun e=>dOf e.2):=by unfold dats;rw[if_pos ⟨hl,hk⟩]
  rw[←e1]
  refine okInc_of (fun x hx=>?_)
  obtain ⟨a1,a2,a3⟩:=hdat x hx
  have:(dats (G.K b) n).length≤7:=by
   have:=ho.ln
   unfold dats
   split <;> simp <;> omega
  exact ⟨a1,a2,by omega⟩
 ·by_cases hl:n.lv=0
  ·exact .inr hl
  ·have:=(hkid e.2 (kid_mem hl he)).1
   exact .inl (by omega)
 ·obtain ⟨p1,p2,p3⟩:=Mp.pick_some hc
  have hcc:=Mp.count_incs (kids n) (S.bl.setN c 1) (fun x hx=>by rw[Mp.setN_len];exact (hkid x hx).1) b
  rw[Mp.count_setN p1,if_neg (by rintro rfl;exact q1 p2)] at hcc
  unfold Mp.decE
  rw[(Mp.incs_len (kids n) _).1,Mp.setN_len,if_neg (by omega),if_neg (by omega)]
 ·by_cases hl:n.lv=0
  ·exact .inl hl
  ·exact .inr (fun e he=>(hkid e.2 (kid_mem hl he)).1)
theorem touch_lt (hb:S.bl.count b≠0) {d:Nat} {S1:St} (h:S.touch b n k=some (d,S1)):d<S.bl.now.length∧S1.bl.now.length=S.bl.now.length:=by
 unfold St.touch at h
 split at h
 ·injection h with h
  injection h with h1 h2
  subst h1 h2
  exact ⟨Mp.lt_of_count hb,rfl⟩
 ·split at h
  ·cases h
  ·rename_i c hp
   injection h with h
   injection h with h1 h2
   subst h1 h2
   refine ⟨(Mp.pick_some hp).1,?_⟩
   split
   ·show (((S.bl.setN c 1).incs (kids n)).dec b).now.length=_
    unfold Mp.dec
    rw[Mp.setN_len,(Mp.incs_len _ _).1,Mp.setN_len]
   ·show ((S.bl.setN c 1).dec b).now.length=_
    unfold Mp.dec
    rw[Mp.setN_len,Mp.setN_len]
theorem way_ok {least:Bool}:∀(l:Nat) (S T:St) (Z:Nat→Bool) (rs pd:List Nat) (G:Gh) (b:Nat) (n:Nd),Inv S Z (b :: rs) pd G→S.nd Z b=some n→n.lv=l→G.K b=k→Off Z S T→rs.length+7 * S.bl.now.length+8 * l≤60000→pd.length+7 * S.bl.now.length+8 * l≤60000→S.bl.now.length≤16384→
  TouchPre T b n k∧∀c T1,T.rt b n k=some (c,T1)→c<T1.bl.now.length∧T1.bl.now.length=T.bl.now.length∧WayOk k least key l T1 c n:=by
 intro l
 induction l with
 |zero=>
  intro S T Z rs pd G b n h hn hl hK hT hr hp hlen
  have hpre:=h.pre hn (by omega) (by omega) hlen
  rw[hK] at hpre
  refine ⟨hpre.off hT.bl hT.da,fun c T1 hq=>?_⟩
  unfold St.rt at hq
  rcases ht:T.touch b n k with _| ⟨c',T2⟩
  ·rw[ht] at hq;cases hq
  ·rw[ht] at hq
   injection hq with hq
   injection hq with h1 h2
   subst h1 h2
   obtain ⟨a1,a2⟩:=touch_lt (by rw[hT.bl];exact (nd_count hn).1) ht
   exact ⟨by show c'<T2.bl.now.length;omega,a2,hl⟩
 |succ l ih=>
  intro S T Z rs pd G b n h hn hl hK hT hr hp hlen
  have hpre:=h.pre hn (by omega) (by omega) hlen
  rw[hK] at hpre
  refine ⟨hpre.off hT.bl hT.da,fun c T1 hq=>?_⟩
  have ho:=h.nd b n hn
  have hl0:n.lv≠0:=by omega
  have hne:=ho.f.ne hl0
  have hasc:=ho.f.asc
  obtain ⟨pre,e0,post,x,hes,hi,hx,hx1,hx2,hx3,hx4,hx5,hx6,hx7⟩:=ins_at hasc hne key
  obtain ⟨g1,g2,g3⟩:=take_len pre e0 post
  have hget:n.es[(findN n.es key).toNat]?.getD (0,0)=e0:=by rw[hi,hes,g3];rfl
  have hee:e0∈n.es:=by rw[hes];simp
  have hilt:(findN n.es key).toNat<n.es.length:=by rw[hi,hes];simp
  obtain ⟨m,hm1,hm2,hm3,hm4⟩:=ho.f.kid hl0 e0 hee
  rw[hK] at hm3
  unfold St.rt at hq
  rw[hT.touch] at hq
  rcases ht:S.touch b n k with _| ⟨c',S1⟩
  ·rw[ht] at hq;cases hq
  ·rw[ht,Option.map_some] at hq
   injection hq with hq
   injection hq with h1 h2
   subst h1 h2
   obtain ⟨a1,a2⟩:=touch_lt (nd_count hn).1 ht
   rw[←hK] at ht
   obtain ⟨o1,o2,o3,o4,o5,o6⟩:=h.open hn ht
   obtain ⟨kp,hrs,hkk⟩:=h.keep_open hn ht
   have hdn:dats (G.K b) n= []:=by unfold dats;rw[if_neg (fun e=>hl0 e.1)]
   have hkn:kids n=pre.map Prod.snd++e0.2 :: post.map Prod.snd:=by unfold kids;rw[if_neg hl0,hes,List.map_append,List.map_cons]
   rw[hdn] at o1
   have i1:=o1.perm (rs':=e0.2 :: (pre.map Prod.snd++post.map Prod.snd++rs)) (pd':=pd) (fun u=>by rw[hkn];simp only[List.count_append,List.count_cons];omega) (fun d=>by simp)
   have hm1':S1.nd (Zi Z c') e0.2=some m:=by rw[(hkk _ (kid_mem hl0 hee)).2];exact hm1
   have hce:e0.2≠c':=(hkk _ (kid_mem hl0 hee)).1
   have hze:Z e0.2=false:=(nd_count hm1).2.1
   have hoff0:∀N:Nd,Off (Zi Z c') S1 (St.put { T with bl:=S1.bl,da:=S1.da } c' N):=fun N=>by
    refine ⟨rfl,rfl,hT.dk.trans o2.dk.symm,hT.sq.trans o2.sq.symm,fun u hu=>?_⟩
    obtain ⟨z1,z2⟩:=Zi_false hu
    rw[put_ne _ z2,o2.ch]
    exact hT.ch u z1
   have hnl:n.es.length=pre.length+post.length+1:=by rw[hes];simp;omega
   have hl7:=ho.ln
   refine ⟨by show c'<S1.bl.now.length;omega,by show S1.bl.now.length=_;rw[a2,hT.bl],hl,hilt,by show c'<S1.bl.now.length;omega,m,?_,?_,by omega,?_,?_,fun d S2 hq=>?_⟩
   ·rw[hget]
    show e0.2<S1.bl.now.length
    exact nd_lt hm1'
   ·rw[hget,(hoff0 n).load (by rw[Zi_ne hce];exact hze)]
    exact (nd_count hm1').2.2
   ·exact ho.ks e0.2 m (kid_mem hl0 hee) hm1
   ·rw[hget]
    exact (ih S1 _ (Zi Z c') _ pd G e0.2 m i1 hm1' (by omega) hm3 (hoff0 n) (by simp only[List.length_append,List.length_map];rw[a2];omega) (by rw[a2];omega) (by rw[a2];exact hlen)).1
   ·rw[hget] at hq ⊢
    have hN:=hoff0 { n with es:=n.es.set (findN n.es key).toNat (if findN n.es key<0∧least=true then key else e0.1,d) }
    obtain ⟨-,hw⟩:=ih S1 _ (Zi Z c') _ pd G e0.2 m i1 hm1' (by omega) hm3 hN (by simp only[List.length_append,List.length_map];rw[a2];omega) (by rw[a2];omega) (by rw[a2];exact hlen)
    unfold St.rt at hq hw
    rw[(hoff0 n).touch] at hq
    rw[hN.touch] at hw
    rcases ht2:S1.touch e0.2 m k with _| ⟨d',S3⟩
    ·rw[ht2] at hq;cases hq
    ·rw[ht2,Option.map_some] at hq hw
     injection hq with hq
     injection hq with h1 h2
     subst h1 h2
     have hcd:c'≠d':=by
      have ht3:=ht2
      rw[←hm3] at ht3
      have:=(i1.open hm1' ht3).2.2.2.2.1
      rintro rfl
      rw[Zi_self] at this
      cases this
     obtain ⟨w1,w2,w3⟩:=hw d' _ rfl
     refine ⟨w1,?_⟩
     have e:(St.put (St.put { T with bl:=S3.bl,da:=S3.da } c' n) d' m).put c' { n with es:=n.es.set (findN n.es key).toNat (if findN n.es key<0∧least=true then key else e0.1,d') } =(St.put { T with bl:=S3.bl,da:=S3.da } c' { n with es:=n.es.set (findN n.es key).toNat (if findN n.es key<0∧least=true then key else e0.1,d') }).put d' m:=by
      rw[put_comm _ hcd,put_put]
      exact (put_comm _ hcd _ _).symm
     show WayOk k least key l (St.put (St.put (St.put { T with bl:=S3.bl,da:=S3.da } c' n) d' m) c' _) d' m
     rw[e]
     exact w3
end
end
end Go.Proofs.YtplhdjdkobddnaaGreat
