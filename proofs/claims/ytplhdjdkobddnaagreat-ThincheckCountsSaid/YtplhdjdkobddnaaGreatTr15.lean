/- SmB SmC StA StB StC StD -/
import Derived.Test.YtplhdjdkobddnaaGreatTr14
set_option linter.unusedVariables false
set_option maxRecDepth 100000
set_option maxHeartbeats 40000000
namespace Go.Proofs.YtplhdjdkobddnaaGreat
section
open Go.RowKit
attribute [local go_sem] Oper.semAt_some
section
variable {W:World} {K:MP} {m:Mp}
theorem find_range (p:Nat→Bool):∀(n k:Nat),k<n→(∀u,u<k→p u=false)→p k=true→(List.range n).find? p=some k:=by
 intro n
 induction n with
 |zero=>intro k hk;omega
 |succ n ih=>
  intro k hk h0 h1
  rw[List.range_succ,List.find?_append]
  by_cases e:k=n
  ·subst e
   rw[List.find?_eq_none.2 (fun u hu=>by rw[List.mem_range] at hu;rw[h0 u hu];exact Bool.false_ne_true)]
   simp[h1]
  ·rw[ih k (by omega) h0 h1]
   rfl
theorem pick_at {k:Nat} (hk:k<m.now.length) (h0:∀u,u<k→m.isFree u=false) (h1:m.isFree k=true):m.pick=some k:=find_range _ _ _ hk h0 h1
theorem pick_no (h0:∀u,u<m.now.length→m.isFree u=false):m.pick=none:=by
 unfold Mp.pick
 rw[List.find?_eq_none]
 intro u hu
 rw[List.mem_range] at hu
 rw[h0 u hu]
 exact Bool.false_ne_true
theorem isFree_iff (u:Nat):m.isFree u=true↔m.count u=0∧m.was u=0:=by unfold Mp.isFree;exact decide_eq_true_iff
theorem isFree_no {u:Nat} (h:¬(m.count u=0∧m.was u=0)):m.isFree u=false:=by unfold Mp.isFree;exact decide_eq_false h
def Mp.took (m:Mp):Mp:=match m.pick with|some c=>m.setN c 1|none=>m
def Mp.pickN (m:Mp):Nat:=m.pick.getD 0
def Mp.pickE (m:Mp):Int:=if m.pick=none then 14 else 0
theorem ralloc_any (h:MapIn W K m) :
  Calls Tryz.prog 89 #[.pointer (some ⟨K.p,0,none⟩)] W fun e w'=>e=.returned (.tuple #[.int .i64 ((m.pickN:Nat):Int),.int .i64 m.pickE])∧MapIn w' K m.took∧Fr (· =K.gn) W w':=by
 have x0:W.cell? ⟨K.p,0,none⟩=some (.slice (some ⟨K.gn,0,none⟩) m.now.length K.cn):=h.cs.cell 0
 have x1:W.cell? ⟨K.p,1,none⟩=some (.slice (some ⟨K.go,0,none⟩) m.now.length K.co):=h.cs.cell 1
 have H:=Hi h
 have hlt:=h.lt
 have hne:=h.rne.1
 obtain ⟨n,hn⟩ :∃n,m.now.length=n:=⟨_,rfl⟩
 rw[hn] at x0 x1 hlt
 have HN:=Hi hn
 clear hn h
 go_enter Tryz.func89,Tryz.ntmps89
 go_wp2_with fail
 go_loop [4] (fun i=>∃k:Nat,k≤n∧i=.int .i64 k∧Hid (∀u,u<k→m.isFree u=false)) (fun i=>n - (intOf i).toNat)
 case atStart=>exact ⟨0,Nat.zero_le _,rfl,fun u hu=>by omega⟩
 case round=>
  obtain ⟨k,hk,rfl,hf⟩:=hrel
  by_cases hlt2:k<n
  ·obtain ⟨y1,y2⟩:=H.out.nowAt (b:=k) (by rw[HN.out];exact hlt2)
   have y3:=H.out.oldAt (b:=k) (by rw[HN.out];exact hlt2)
   obtain ⟨x,hx⟩ :∃x,m.count k=x:=⟨_,rfl⟩
   obtain ⟨y,hy⟩ :∃y,m.was k=y:=⟨_,rfl⟩
   rw[hx] at y1
   rw[hy] at y3
   have HX:=Hi hx
   have HY:=Hi hy
   clear hx hy
   by_cases c0:x=0
   ·by_cases c1:y=0
    ·subst c0 c1
     have hp:=pick_at (m:=m) (by rw[HN.out];exact hlt2) hf.out ((isFree_iff k).2 ⟨HX.out,HY.out⟩)
     have hT:m.took=m.setN k 1:=by unfold Mp.took;rw[hp]
     have HP:=Hi hp
     have HT:=Hi hT
     clear hp hT
     go_wp2_with fail
     go_ret2
     have e1:m.pickN=k:=by unfold Mp.pickN;rw[HP.out];rfl
     have e2:m.pickE=0:=by unfold Mp.pickE;rw[HP.out];rfl
     rw[e1,e2,HT.out]
     exact ⟨rfl,H.out.setN (x:=1) (by rw[HN.out];exact hlt2) (by omega),fr_set _ _ _ _⟩
    ·have d1:¬(y:Int)=0:=by omega
     have hF:=Hi (isFree_no (m:=m) (u:=k) (by rw[HY.out];exact fun q=>c1 q.2))
     subst c0
     go_wp2_with fail
     go_round
     case rel=>exact ⟨k+1,by omega,by go_num,fun u hu=>by
      rcases Nat.lt_or_ge u k with hu|hu
      ·exact hf.out u hu
      ·obtain rfl:u=k:=by omega
       exact hF.out⟩
     case measure=>simp[intOf];omega
   ·have d1:¬(x:Int)=0:=by omega
    have hF:=Hi (isFree_no (m:=m) (u:=k) (by rw[HX.out];exact fun q=>c0 q.1))
    go_wp2_with fail
    go_round
    case rel=>exact ⟨k+1,by omega,by go_num,fun u hu=>by
     rcases Nat.lt_or_ge u k with hu|hu
     ·exact hf.out u hu
     ·obtain rfl:u=k:=by omega
      exact hF.out⟩
    case measure=>simp[intOf];omega
  ·obtain rfl:k=n:=by omega
   have hp:=pick_no (m:=m) (by rw[HN.out];exact hf.out)
   have hT:m.took=m:=by unfold Mp.took;rw[hp]
   have HP:=Hi hp
   have HT:=Hi hT
   clear hp hT
   go_wp2_with fail
   go_ret2
   have e1:m.pickN=0:=by unfold Mp.pickN;rw[HP.out];rfl
   have e2:m.pickE=14:=by unfold Mp.pickE;rw[HP.out];rfl
   rw[e1,e2,HT.out]
   exact ⟨rfl,H.out,Fr.refl _ _⟩
def freeTo (m:Mp) (k:Nat):Nat:=(List.range k).countP m.isFree
theorem freeTo_succ (m:Mp) (k:Nat):freeTo m (k+1)=freeTo m k+(if m.isFree k=true then 1 else 0):=by
 unfold freeTo
 rw[List.range_succ,List.countP_append]
 simp[List.countP_cons]
theorem rfree_any24 (h:MapIn W K m) :
  Calls Tryz.prog 118 #[.pointer (some ⟨K.p,0,none⟩)] W fun e w'=>e=.returned (.int .i64 ((m.free:Nat):Int))∧W=w':=by
 have x0:W.cell? ⟨K.p,0,none⟩=some (.slice (some ⟨K.gn,0,none⟩) m.now.length K.cn):=h.cs.cell 0
 have x1:W.cell? ⟨K.p,1,none⟩=some (.slice (some ⟨K.go,0,none⟩) m.now.length K.co):=h.cs.cell 1
 have H:=Hi h
 have hlt:=h.lt
 have hfr:Hid (m.free=freeTo m m.now.length):=rfl
 obtain ⟨n,hn⟩ :∃n,m.now.length=n:=⟨_,rfl⟩
 rw[hn] at x0 x1 hlt hfr
 have HN:=Hi hn
 clear hn h
 go_enter Tryz.func118,Tryz.ntmps118
 go_wp2_with fail
 go_loop [3,4] (fun s i=>∃k f:Nat,k≤n∧f≤k∧i=.int .i64 k∧s=.int .i64 f∧Hid (f=freeTo m k)) (fun _ i=>n - (intOf i).toNat)
 case atStart=>exact ⟨0,0,Nat.zero_le _,Nat.le_refl _,rfl,rfl,rfl⟩
 case round=>
  obtain ⟨k,f,hk,hfk,rfl,rfl,hf⟩:=hrel
  by_cases hlt2:k<n
  ·obtain ⟨y1,y2⟩:=H.out.nowAt (b:=k) (by rw[HN.out];exact hlt2)
   have y3:=H.out.oldAt (b:=k) (by rw[HN.out];exact hlt2)
   have hS:=Hi (freeTo_succ m k)
   obtain ⟨x,hx⟩ :∃x,m.count k=x:=⟨_,rfl⟩
   obtain ⟨y,hy⟩ :∃y,m.was k=y:=⟨_,rfl⟩
   rw[hx] at y1
   rw[hy] at y3
   have HX:=Hi hx
   have HY:=Hi hy
   clear hx hy
   by_cases c0:x=0
   ·by_cases c1:y=0
    ·subst c0 c1
     have hF:=Hi ((isFree_iff (m:=m) k).2 ⟨HX.out,HY.out⟩)
     go_wp2_with fail
     go_round
     case rel=>exact ⟨k+1,f+1,by omega,by omega,by go_num,by go_num,by show _=_;rw[hS.out,if_pos hF.out,←hf.out]⟩
     case measure=>simp[intOf];omega
    ·have d1:¬(y:Int)=0:=by omega
     have hF:=Hi (isFree_no (m:=m) (u:=k) (by rw[HY.out];exact fun q=>c1 q.2))
     subst c0
     go_wp2_with fail
     go_round
     case rel=>exact ⟨k+1,f,by omega,by omega,by go_num,rfl,by show _=_;rw[hS.out,if_neg (by rw[hF.out];simp),←hf.out];rfl⟩
     case measure=>simp[intOf];omega
   ·have d1:¬(x:Int)=0:=by omega
    have hF:=Hi (isFree_no (m:=m) (u:=k) (by rw[HX.out];exact fun q=>c0 q.1))
    go_wp2_with fail
    go_round
    case rel=>exact ⟨k+1,f,by omega,by omega,by go_num,rfl,by show _=_;rw[hS.out,if_neg (by rw[hF.out];simp),←hf.out];rfl⟩
    case measure=>simp[intOf];omega
  ·obtain rfl:k=n:=by omega
   have hE:m.free=f:=by rw[hfr.out,hf.out]
   have HE:=Hi hE
   clear hE
   go_wp2_with fail
   go_ret
   rw[HE.out]
   exact ⟨rfl,rfl⟩
end
end
section
open Go.RowKit
attribute [local go_sem] Oper.semAt_some
section
variable {W:World} {K:MP} {m:Mp}
theorem rcommit_any24 (h:MapIn W K m) (hp:1≤m.now.length) :
  Calls Tryz.prog 98 #[.pointer (some ⟨K.p,0,none⟩)] W fun e w'=>e=.returned (.tuple #[])∧∃g c,W.heap.size≤g∧g<w'.heap.size∧MapIn w' { K with go:=g,co:=c } ⟨m.now,m.now⟩∧Fr (· =K.p) W w':=by
 obtain ⟨i0,hi0,hz0,hz1,hz2⟩:=info_parts int_info
 have x0:W.cell? ⟨K.p,0,none⟩=some (.slice (some ⟨K.gn,0,none⟩) m.now.length K.cn):=h.cs.cell 0
 have HR:=Hi (Reads.of_own h.rn)
 have HN:=Hi (nv_length m.now)
 have hlt:=h.lt
 obtain ⟨b1,b2,b3⟩:=h.bd
 have hp1:W.frozen? ⟨K.p,1,none⟩=false:=h.cs.free 1
 have H:=Hi h
 have HC:Hid (Cs W K.p 147 #[.slice (some ⟨K.gn,0,none⟩) m.now.length K.cn,.slice (some ⟨K.go,0,none⟩) m.now.length K.co]):=h.cs
 have HM:=Hi (nv_one m.now)
 obtain ⟨vs,hvs⟩ :∃vs,nv m.now=vs:=⟨_,rfl⟩
 rw[hvs] at HR HN HM
 obtain ⟨n,hn⟩ :∃n,m.now.length=n:=⟨_,rfl⟩
 rw[hn] at x0 hlt hp HN HC
 have HVS:=Hi hvs
 have HNN:=Hi hn
 clear h hvs hn
 go_enter Tryz.func98,Tryz.ntmps98
 go_wp2_with (at_builtin;refine wpList_append_reads _ (by rfl) _ _ _ (by rfl) W.heap.size 3 i0 _ 1 8 Tryz.underlying22 hi0 hz0 hz1 hz2 (by rfl) (by omega) (.slice none 0 0) 0 [] (by rfl) (World.ownsRow_nil _ _ _ _) (some ⟨K.gn,0,none⟩) n K.cn vs (by rfl) (by rw[HN.out,Nat.mul_one]) HR.out HM.out (by simp only[maxLen];omega) (by omega) (by simp) ?_;intro v1 w1 hown hg1 hat1;have hb:Below W.heap.size W w1:=(Below.refl _ W).grown hg1 (by simp) (by intro k hk;simp[Value.ownBlock] at hk);simp only[Nat.zero_add,List.nil_append] at hown;obtain ⟨g,cap,rfl,hg,hlt⟩:=hown.form (by omega);have hc1:=HC.out.below hb b1;have hf1:=hc1.free 1;have hk1:w1.cell? ⟨K.p,1,none⟩=some (.slice (some ⟨K.go,0,none⟩) n K.co):=hc1.cell 1;have HO:=Hi hown;clear hown hat1 hg1)
 refine bodyPost_end (v:=.tuple #[]) (by simp[results,Tryz.f98,go_sem]) rfl ?_
 have hpg:K.p≠g:=by omega
 have hf:=fr_set w1 K.p 1 (.slice (some ⟨g,0,none⟩) n cap)
 have h1:=H.out.keep hb
 have hbb:=HO.out
 rw[←HVS.out] at hbb
 have hrn:=own_fr h1.rn hf (fun b hb e=>h1.rne.1 (by simp[Value.ownBlock] at hb;omega))
 have hro:=own_lower (own_fr hbb hf (fun b hb e=>hpg (by simp[Value.ownBlock] at hb;omega))) (Nat.zero_le _)
 rw[HNN.out] at hrn
 refine ⟨rfl,g,cap,hg,by simpa using hlt,⟨?_,?_,?_,rfl,?_,H.out.sm,H.out.lt⟩,Fr.set (G:=fun j=>j=K.p) (b:=K.p) (Fr.of_below hb) (.inl rfl) _⟩
 ·have:=heap_setCell_same w1 K.p 1 _ _ (.slice (some ⟨g,0,none⟩) n cap) hc1
  show Cs _ _ _ #[.slice _ m.now.length _,.slice _ m.now.length _]
  rw[HNN.out]
  exact this
 ·show World.ownsRow _ _ _ _ (.slice _ m.now.length _) m.now.length _
  rw[HNN.out]
  exact hrn
 ·show World.ownsRow _ _ _ _ (.slice _ m.now.length _) m.now.length _
  rw[HNN.out]
  exact hro
 ·show K.gn≠g
  omega
theorem rload_any24 (A:Option Addr) (n c:Nat) (l:List Nat) (W:World) (hn:l.length=n) (hA:Reads W A (nv l)) (h1:1≤n) (h2:n≤16384) (hs:∀x∈l,x≤65535) :
  Calls Tryz.prog 53 #[.slice A n c] W fun e w'=>∃K:MP,e=.returned (.tuple #[.pointer (some ⟨K.p,0,none⟩),.int .i64 0])∧MapIn w' K ⟨l,l⟩∧(∀j,K.has j→W.heap.size≤j∧j<w'.heap.size)∧Below W.heap.size W w':=by
 obtain ⟨i0,hi0,hz0,hz1,hz2⟩:=info_parts int_info
 have HR:=Hi hA
 have HM:=Hi (nv_one l)
 have HN:=Hi (nv_length l)
 rw[hn] at HN
 have HNN:=Hi hn
 have hcx:∀i,i<n→∃b off,A=some ⟨b,off,none⟩∧W.cell? ⟨b,off+i,none⟩=some (.int .i64 ((l[i]?.getD 0:Nat):Int))∧l[i]?.getD 0≤65535:=by
  intro i hi
  obtain ⟨b,off,e,_,hc⟩:=hA (by rw[nv_length];omega)
  refine ⟨b,off,e,hc i _ (nv_at l i (by omega)),?_⟩
  rw[List.getElem?_eq_getElem (by omega)]
  exact hs _ (List.getElem_mem _)
 have HX:=Hi hcx
 have HS:=Hi hs
 clear hcx hA hn hs
 obtain ⟨vs,hvs⟩ :∃vs,nv l=vs:=⟨_,rfl⟩
 rw[hvs] at HR HM HN
 have HVS:=Hi hvs
 clear hvs
 have d1:¬(n:Int)<1:=by omega
 have d2:¬(16384:Int)<(n:Int):=by omega
 go_enter Tryz.func53,Tryz.ntmps53
 go_wp2_with fail
 go_loop [4] (fun i=>∃k:Nat,k≤n∧i=.int .i64 k) (fun i=>n - (intOf i).toNat)
 case atStart=>exact ⟨0,Nat.zero_le _,rfl⟩
 case round=>
  obtain ⟨k,hk,rfl⟩:=hrel
  by_cases hlt:k<n
  ·obtain ⟨b,off,rfl,y1,y2⟩:=HX.out k hlt
   obtain ⟨x,hx⟩ :∃x,l[k]?.getD 0=x:=⟨_,rfl⟩
   rw[hx] at y1 y2
   clear hx
   have g1:¬(x:Int)<0:=by omega
   have g2:¬(65535:Int)<(x:Int):=by omega
   go_wp2_with fail
   go_round
   case rel=>exact ⟨k+1,by omega,by go_num⟩
   case measure=>simp[intOf];omega
  ·obtain rfl:k=n:=by omega
   go_wp2_with (first|(at_builtin;refine wpList_append_reads _ (by rfl) _ _ _ (by rfl) W.heap.size 3 i0 _ 1 8 Tryz.underlying22 hi0 hz0 hz1 hz2 (by rfl) (by omega) (.slice none 0 0) 0 [] (by rfl) (World.ownsRow_nil _ _ _ _) A k c vs (by rfl) (by rw[HN.out,Nat.mul_one]) HR.out HM.out (by simp only[maxLen];omega) (by omega) (by simp) ?_;intro v1 w1 hown hg1 hat1;have hb:Below W.heap.size W w1:=(Below.refl _ W).grown hg1 (by simp) (by intro k hk;simp[Value.ownBlock] at hk);simp only[Nat.zero_add,List.nil_append] at hown;obtain ⟨g,cap,rfl,hg,hltg⟩:=hown.form (by omega);have HR2:=Hi (HR.out.keep hb);have HO:=Hi hown;clear hown hat1 hg1)|(at_builtin;refine wpList_append_reads _ (by rfl) _ _ _ (by rfl) w1.heap.size 3 i0 _ 1 8 Tryz.underlying22 hi0 hz0 hz1 hz2 (by rfl) (by omega) (.slice none 0 0) 0 [] (by rfl) (World.ownsRow_nil _ _ _ _) A k c vs (by rfl) (by rw[HN.out,Nat.mul_one]) HR2.out HM.out (by simp only[maxLen];omega) (by omega) (by simp) ?_;intro v2 w2 hown hg2 hat2;have hb2:Below w1.heap.size w1 w2:=(Below.refl _ w1).grown hg2 (by simp) (by intro k hk;simp[Value.ownBlock] at hk);simp only[Nat.zero_add,List.nil_append] at hown;obtain ⟨g2,cap2,rfl,hgg2,hltg2⟩:=hown.form (by omega);have HO2:=Hi hown;clear hown hat2 hg2))
   go_ret2
   have a1:=HO.out
   have a2:=HO2.out
   rw[←HVS.out] at a1 a2
   refine ⟨⟨w2.heap.size,g,cap,g2,cap2⟩,rfl,⟨?_,?_,?_,rfl,?_,fun b=>?_,by show l.length≤_;rw[HNN.out];exact h2⟩,?_,?_⟩
   ·have:=Cs.new w2 147 #[.slice (some ⟨g,0,none⟩) k cap,.slice (some ⟨g2,0,none⟩) k cap2]
    show Cs _ _ _ #[.slice _ l.length _,.slice _ l.length _]
    rw[HNN.out]
    exact this
   ·show World.ownsRow _ _ _ _ (.slice _ l.length _) l.length _
    rw[HNN.out]
    exact ((own_lower (own_keepB a1 hb2) (Nat.zero_le _)).alloc _)
   ·show World.ownsRow _ _ _ _ (.slice _ l.length _) l.length _
    rw[HNN.out]
    exact ((own_lower a2 (Nat.zero_le _)).alloc _)
   ·show g≠g2
    omega
   ·show l[b]?.getD 0≤65535
    rcases Nat.lt_or_ge b l.length with hbl|hbl
    ·rw[List.getElem?_eq_getElem hbl]
     exact HS.out _ (List.getElem_mem hbl)
    ·rw[List.getElem?_eq_none hbl]
     exact Nat.zero_le _
   ·have q1:=hb.size
    have q2:=hb2.size
    intro j hj
    have hj2:j=w2.heap.size∨j=g∨j=g2:=hj
    clear hj
    rcases hj2 with rfl|rfl|rfl
    ·exact ⟨by show W.heap.size≤w2.heap.size;omega,by show w2.heap.size<_;simp⟩
    ·exact ⟨hg,by simp;omega⟩
    ·exact ⟨by omega,by simp;omega⟩
   ·exact (hb.trans (hb2.mono hb.size)).alloc (by have q1:=hb.size;have q2:=hb2.size;omega) _
end
end
section
open Go.RowKit
attribute [local go_sem] Oper.semAt_some
def blkW (ws:List Nat) (b:Nat):List Nat:=(ws.drop (b * 16)).take 16
def nodeOf (l:List Nat) (b:Nat):Nd:=⟨(decLv l (b:Int)).toNat,(decSq l (b:Int)).toNat,decL l (b:Int)⟩
def dkW (ws:List Nat) (b:Nat):Option Nd:=if (b+1) * 16≤ws.length∧decE (blkW ws b) (b:Int)=0 then some (nodeOf (blkW ws b) b) else none
def NdV (W:World) (Out:Nat→Prop) (n:Nd) (v:Value):Prop:=
 ∃A c,v=.agg #[.int .i64 (n.lv:Int),.int .i64 (n.sq:Int),.slice A n.es.length c]∧Reads W A (ev n.es)∧n.es.length≤c∧(n.es≠[]→∀p,A=some p→Out p.block∧p.block<W.heap.size)∧E64 n.es∧n.lv≤16∧n.sq≤33554432∧n.es.length≤8
def ChIn (W:World) (mp len:Nat) (ch:Nat→Option Nd) (Out:Nat→Prop):Prop:=
 ∃n D,W.ownsMap Tryz.prog 3 valElem mp n D∧n≤len∧(∀b,len≤b→ch b=none)∧∀x:Int,(∀b:Nat,x=(b:Int)→∀nd,ch b=some nd→∃v,Maps.has D (.int .i64 x)=true∧(∀z,D.atKey (.int .i64 x) z=.held v)∧NdV W Out nd v)∧((∀b:Nat,x=(b:Int)→ch b=none)→Maps.has D (.int .i64 x)=false)
structure SP where
 s:Nat
 b:MP
 d:MP
 w:Nat
 cw:Nat
 mp:Nat
def SP.has (P:SP) (j:Nat):Prop:=j=P.s∨P.b.has j∨P.d.has j∨j=P.w∨j=P.mp
structure StIn (W:World) (F:Nat→Prop) (P:SP) (S:St) (ws:List Nat):Prop where
 cs:Cs W P.s 152 #[.slice (some ⟨P.w,0,none⟩) ws.length P.cw,.pointer (some ⟨P.b.p,0,none⟩),.pointer (some ⟨P.d.p,0,none⟩),.int .i64 (S.seq:Int),.map (some P.mp)]
 mb:MapIn W P.b S.bl
 md:MapIn W P.d S.da
 wr:W.ownsRow 0 39 1 (.slice (some ⟨P.w,0,none⟩) ws.length P.cw) ws.length (uv ws)
 w64:W64 ws
 wl:ws.length≤1000000
 dk:S.dk=dkW ws
 ch:ChIn W P.mp S.bl.now.length S.ch (fun j=>F j∧¬P.has j)
 inF:∀j,P.has j→F j
 ap:∀j,P.b.has j→¬P.d.has j
 sq:S.seq≤16777216
section
variable {W W':World} {P:SP} {S:St} {ws:List Nat} {G:Nat→Prop} {mp len:Nat} {ch:Nat→Option Nd} {Out:Nat→Prop}
theorem NdV.fr {n:Nd} {v:Value} (h:NdV W Out n v) (hf:Fr G W W') (hn:∀j,Out j→¬G j):NdV W' Out n v:=by
 obtain ⟨A,c,e,h1,h2,h3,h4⟩:=h
 have hne:(ev n.es).length≠0→n.es≠[]:=fun h0 e=>h0 (by rw[e];rfl)
 exact ⟨A,c,e,h1.fr hf (fun h0 p hp=>hn _ (h3 (hne h0) p hp).1),h2,fun h0 p hp=>⟨(h3 h0 p hp).1,Nat.lt_of_lt_of_le (h3 h0 p hp).2 hf.size⟩,h4⟩
theorem owns_fr {H:Type} {Q:Program} {k:TypeId} {R:Value→Option (DataW H × List MemPlace)} {b n:Nat} {D:DataW H} (h:W.ownsMap Q k R b n D) (hf:Fr G W W') (hn:¬G b):W'.ownsMap Q k R b n D:=by
 have hlt:=h.lt
 obtain ⟨es,clock,hb,r⟩:=h
 exact ⟨es,clock,(hf.block b hlt hn).trans hb,r⟩
theorem ChIn.fr (h:ChIn W mp len ch Out) (hf:Fr G W W') (hn:¬G mp) (ho:∀j,Out j→¬G j):ChIn W' mp len ch Out:=by
 obtain ⟨n,D,h1,h2,h3,h4⟩:=h
 refine ⟨n,D,owns_fr h1 hf hn,h2,h3,fun x=>⟨fun b hb nd hnd=>?_,(h4 x).2⟩⟩
 obtain ⟨v,v1,v2,v3⟩:=(h4 x).1 b hb nd hnd
 exact ⟨v,v1,v2,v3.fr hf ho⟩
theorem ChIn.lt (h:ChIn W mp len ch Out):mp<W.heap.size:=by
 obtain ⟨n,D,h1,-⟩:=h
 exact h1.lt
theorem ChIn.key {x:Int} (hx: -9223372036854775808≤x∧x≤9223372036854775807):keyOf Tryz.prog 3 (.int .i64 x)=some (.int .i64 x):=Maps.keyOf_int_mk Tryz.underlying3 (WalkArith.wf_i64 (by omega))
theorem zero_node (w:World):(zeroValue 129).run Tryz.prog w=.ok (.agg #[.int .i64 0,.int .i64 0,.slice none 0 0]) w:=by kernel_rfl
theorem ChIn.look (h:ChIn W mp len ch Out) (b:Nat) (hb:b≤1000000) :
  ∃v,(Instr.lookup 150 (.map (some mp)) (.int .i64 (b:Int)) true).run Tryz.prog W=.ok (.tuple #[v,.bool (ch b).isSome]) W∧(∀nd,ch b=some nd→NdV W Out nd v)∧(ch b=none→v=.agg #[.int .i64 0,.int .i64 0,.slice none 0 0]):=by
 obtain ⟨n,D,h1,h2,h3,h4⟩:=h
 obtain ⟨v,ps,hrun,hv⟩:=h1.look_ok (Maps.int_keyed Tryz.underlying3) Tryz.underlying150 (zero_node W) (zd:=.held (.agg #[.int .i64 0,.int .i64 0,.slice none 0 0])) (zp:=[]) rfl (ChIn.key (x:=(b:Int)) (by omega))
 have hv2:D.atKey (.int .i64 (b:Int)) (.held (.agg #[.int .i64 0,.int .i64 0,.slice none 0 0]))=.held v:=by
  unfold valElem at hv
  injection hv with hv
  injection hv with hv _
  exact hv.symm
 rcases hc:ch b with _|nd
 ·have hh:Maps.has D (.int .i64 (b:Int))=false:=(h4 b).2 (fun b' hb'=>by
   have:b=b':=by omega
   subst this
   exact hc)
  refine ⟨v,by rw[hh] at hrun;exact hrun,(fun nd q=>by cases q),fun _=>?_⟩
  rw[Maps.atKey_of_not_has hh] at hv2
  injection hv2 with hv2
  exact hv2.symm
 ·obtain ⟨u,u1,u2,u3⟩:=(h4 b).1 b rfl nd hc
  refine ⟨v,by rw[u1] at hrun;exact hrun,fun nd' q=>?_,(fun q=>by cases q)⟩
  injection q with q
  subst q
  rw[u2] at hv2
  injection hv2 with hv2
  rw[←hv2]
  exact u3
end
end
section
open Go.RowKit
attribute [local go_sem] Oper.semAt_some
theorem nodup_le:∀(n:Nat) (l:List Nat),l.Pairwise (·≠·)→(∀x∈l,x<n)→l.length≤n
 |0,[],_,_=>Nat.le_refl _
 |0,x :: l,_,h=>by have:=h x List.mem_cons_self;omega
 |n+1,l,hp,h=>by
  have h1:=nodup_le n (l.filter (fun x=>decide (x≠n))) (hp.filter _) (fun x hx=>by
   rw[List.mem_filter] at hx
   have h2:=h x hx.1
   have h3:=of_decide_eq_true hx.2
   omega)
  have key:∀l:List Nat,l.Pairwise (·≠·)→l.length≤(l.filter (fun x=>decide (x≠n))).length+1:=by
   intro l
   induction l with
   |nil=>intro _;simp
   |cons a l ih=>
    intro hp
    rw[List.pairwise_cons] at hp
    by_cases e:a=n
    ·have:l.filter (fun x=>decide (x≠n))=l:=List.filter_eq_self.2 (fun x hx=>by
      have:=hp.1 x hx
      simp
      omega)
     rw[List.filter_cons,this]
     simp[e]
    ·have:=ih hp.2
     rw[List.filter_cons,if_pos (by simpa using e)]
     simp only[List.length_cons]
     omega
  have:=key l hp
  omega
section
variable {W W':World} {mp len:Nat} {ch:Nat→Option Nd} {Out:Nat→Prop}
def litN:Lit→Nat
 | .int _ a=>a.toNat
 |_=>0
theorem owns_bound {n:Nat} {D:DataW Value} (h:W.ownsMap Tryz.prog 3 valElem mp n D) (hk:∀x:Int,Maps.has D (.int .i64 x)=true→0≤x∧x<(len:Int)):W.ownsMap Tryz.prog 3 valElem mp len D:=by
 have K:=Maps.int_keyed (P:=Tryz.prog) Tryz.underlying3
 obtain ⟨es,clock,hb,F,hs,rfl⟩:=h
 refine ⟨es,clock,hb,F,?_,rfl⟩
 have hap:=Maps.fit_apart K F
 have hks:=Maps.fit_keys F
 have hint:∀p∈es.toList.map (WideElems.rg Tryz.prog 3 valElem),∃a:Int,p.1=.int .i64 a∧0≤a∧a<(len:Int):=by
  intro p hp
  obtain ⟨v,hv⟩:=hks p hp
  have hl:∃a:Int,p.1=.int .i64 a:=by
   simp only[keyOf,Tryz.underlying3] at hv
   cases v <;> simp[mapKey,Tryz.underlying3] at hv
   exact ⟨_,hv.2.symm⟩
  obtain ⟨a,ha⟩:=hl
  refine ⟨a,ha,hk a ?_⟩
  rw[Maps.has_eq,List.any_eq_true]
  exact ⟨p,(Go.WideShapes.sorted_perm _).mem_iff.2 hp,by rw[ha];simp[Lit.sameKey]⟩
 have hlen:es.size=((es.toList.map (WideElems.rg Tryz.prog 3 valElem)).map (fun p=>litN p.1)).length:=by simp
 rw[hlen]
 refine nodup_le _ _ ?_ ?_
 ·rw[List.pairwise_map]
  refine hap.imp_of_mem (fun {p q} hp hq hne e=>?_)
  obtain ⟨a,ha,a1,a2⟩:=hint p hp
  obtain ⟨b,hb,b1,b2⟩:=hint q hq
  rw[ha,hb] at e hne
  have e2:a.toNat=b.toNat:=e
  exact hne (by rw[show a=b by omega])
 ·intro x hx
  obtain ⟨p,hp,rfl⟩:=List.mem_map.1 hx
  obtain ⟨a,ha,a1,a2⟩:=hint p hp
  rw[ha]
  show a.toNat<len
  omega
theorem ChIn.store (h:ChIn W mp len ch Out) {b:Nat} (hb:b<len) (hlen:len≤1000000) {nd:Nd} {v:Value} (hv:NdV W Out nd v) (ho:∀j,Out j→j≠mp) :
  ∃W',(Instr.mapUpdate 150 (.map (some mp)) (.int .i64 (b:Int)) v).run Tryz.prog W=.ok () W'∧ChIn W' mp len (fun u=>if u=b then some nd else ch u) Out∧Fr (· =mp) W W':=by
 obtain ⟨n,D,h1,h2,h3,h4⟩:=h
 have K:=Maps.int_keyed (P:=Tryz.prog) Tryz.underlying3
 have hk:=ChIn.key (x:=(b:Int)) (by omega)
 obtain ⟨W',hrun,a1,a2⟩:=h1.store K Tryz.underlying150 (by simp only[maxLen];omega) hk (show valElem v=some (.held v,[]) from rfl)
 have hfr:Fr (· =mp) W W':=Fr.of_grown a2.grown
 have hne:∀x:Int,x≠(b:Int)→(Lit.int .i64 x:Lit)≠.int .i64 (b:Int):=fun x hx e=>by injection e with _ e;exact hx e
 have hbnd:=owns_bound (len:=len) a1 (fun x hx=>by
  by_cases e:x=(b:Int)
  ·omega
  ·rw[Maps.has_put_other (hne x e)] at hx
   rcases Classical.em (∃u:Nat,x=(u:Int)∧ch u≠none) with ⟨u,e1,e2⟩|hno
   ·have:u<len:=by
     rcases Nat.lt_or_ge u len with hu|hu
     ·exact hu
     ·exact absurd (h3 u hu) e2
    omega
   ·have:=(h4 x).2 (fun u hu=>by
     rcases hc:ch u with _|q
     ·rfl
     ·exact absurd ⟨u,hu,by rw[hc];simp⟩ hno)
    rw[this] at hx
    cases hx)
 refine ⟨W',hrun,⟨len,_,hbnd,Nat.le_refl _,fun u hu=>?_,fun x=>?_⟩,hfr⟩
 ·show (if u=b then _ else _)=_
  rw[if_neg (by omega)]
  exact h3 u hu
 ·by_cases e:x=(b:Int)
  ·subst e
   refine ⟨fun u hu nd' hn=>?_,fun hn=>?_⟩
   ·obtain rfl:u=b:=by omega
    dsimp only at hn
    rw[if_pos rfl] at hn
    injection hn with hn
    subst hn
    exact ⟨v,Maps.has_put_same h1.isMap (K.key hk) _,fun z=>Maps.atKey_put_same h1.isMap (K.key hk) _ _,hv.fr hfr (fun j hj=>ho j hj)⟩
   ·have:=hn b rfl
    dsimp only at this
    rw[if_pos rfl] at this
    cases this
  ·refine ⟨fun u hu nd' hn=>?_,fun hn=>?_⟩
   ·dsimp only at hn
    rw[if_neg (by omega)] at hn
    obtain ⟨q,q1,q2,q3⟩:=(h4 x).1 u hu nd' hn
    exact ⟨q,by rw[Maps.has_put_other (hne x e)];exact q1,fun z=>by rw[Maps.atKey_put_other (hne x e)];exact q2 z,q3.fr hfr (fun j hj=>ho j hj)⟩
   ·rw[Maps.has_put_other (hne x e)]
    exact (h4 x).2 (fun u hu=>by
     have:=hn u hu
     dsimp only at this
     rw[if_neg (by omega)] at this
     exact this)
theorem ChIn.made (W:World) (len:Nat) (Out:Nat→Prop):ChIn (W.alloc (.map #[] 0)) W.heap.size len (fun _=>none) Out:=
 ⟨0,.map [],World.ownsMap_made W _ _ _,Nat.zero_le _,fun _ _=>rfl,fun x=>⟨(fun b _ nd h=>by cases h),fun _=>rfl⟩⟩
end
def FN (F:Nat→Prop) (W:World) (j:Nat):Prop:=F j∨W.heap.size≤j
section
variable {W W':World} {F F':Nat→Prop} {P:SP} {S:St} {ws:List Nat} {G:Nat→Prop} {mp len:Nat} {ch:Nat→Option Nd} {Out Out':Nat→Prop}
theorem NdV.wide {n:Nd} {v:Value} (h:NdV W Out n v) (ho:∀j,Out j→j<W.heap.size→Out' j):NdV W Out' n v:=by
 obtain ⟨A,c,e,h1,h2,h3,h4⟩:=h
 exact ⟨A,c,e,h1,h2,fun h0 p hp=>⟨ho _ (h3 h0 p hp).1 (h3 h0 p hp).2,(h3 h0 p hp).2⟩,h4⟩
theorem ChIn.wide (h:ChIn W mp len ch Out) (ho:∀j,Out j→j<W.heap.size→Out' j):ChIn W mp len ch Out':=by
 obtain ⟨n,D,h1,h2,h3,h4⟩:=h
 refine ⟨n,D,h1,h2,h3,fun x=>⟨fun b hb nd hnd=>?_,(h4 x).2⟩⟩
 obtain ⟨v,v1,v2,v3⟩:=(h4 x).1 b hb nd hnd
 exact ⟨v,v1,v2,v3.wide ho⟩
theorem StIn.wide (h:StIn W F P S ws) (hF:∀j,F j→j<W.heap.size→F' j) (hP:∀j,P.has j→F' j):StIn W F' P S ws:=
 ⟨h.cs,h.mb,h.md,h.wr,h.w64,h.wl,h.dk,h.ch.wide (fun j hj hl=>⟨hF j hj.1 hl,hj.2⟩),hP,h.ap,h.sq⟩
theorem StIn.fr (h:StIn W F P S ws) (hf:Fr G W W') (hn:∀j,F j→¬G j):StIn W' F P S ws:=
 ⟨h.cs.fr hf (hn _ (h.inF _ (.inl rfl))),h.mb.fr hf (fun j hj=>hn _ (h.inF _ (.inr (.inl hj)))),h.md.fr hf (fun j hj=>hn _ (h.inF _ (.inr (.inr (.inl hj))))),own_fr h.wr hf (fun b hb=>by simp[Value.ownBlock] at hb;rw[←hb];exact hn _ (h.inF _ (.inr (.inr (.inr (.inl rfl)))))),h.w64,h.wl,h.dk,h.ch.fr hf (hn _ (h.inF _ (.inr (.inr (.inr (.inr rfl)))))) (fun j hj=>hn _ hj.1),h.inF,h.ap,h.sq⟩
theorem StIn.keep (h:StIn W F P S ws) (hb:Below W.heap.size W W'):StIn W' F P S ws:=h.fr (G:=fun _=>False) (Fr.of_below hb) (fun _ _ h=>h)
theorem cs_mp_ne {D:DataW Value} {b n g:Nat} {t:TypeId} {cs:Array Value} {Q:Program} {k:TypeId} {R:Value→Option (DataW Value × List MemPlace)} (h:W.ownsMap Q k R b n D) (h':Cs W g t cs):g≠b:=by
 rintro rfl
 obtain ⟨es,clock,hb,-⟩:=h
 unfold Cs at h'
 rw[hb] at h'
 cases h'
theorem own_mp_ne {D:DataW Value} {b n:Nat} {Q:Program} {k:TypeId} {R:Value→Option (DataW Value × List MemPlace)} {base m:Nat} {e:TypeId} {size:Nat} {v:Value} {xs:List Value} (h:W.ownsMap Q k R b n D) (h':W.ownsRow base e size v m xs):∀g,v.ownBlock=some g→g≠b:=by
 intro g hg hgb
 subst hgb
 rcases h'.2 with ⟨rfl,_⟩| ⟨g',cap,cur,rfl,_,hh,_⟩
 ·simp[Value.ownBlock] at hg
 ·obtain rfl:g'=g:=by simpa[Value.ownBlock] using hg
  obtain ⟨es,clock,hb,-⟩:=h
  rw[hb] at hh
  cases hh
theorem StIn.lt (h:StIn W F P S ws):∀j,P.has j→j<W.heap.size:=by
 rintro j (rfl|hj|hj|rfl|rfl)
 ·exact h.cs.lt
 ·obtain ⟨b1,b2,b3⟩:=h.mb.bd
  rcases hj with rfl|rfl|rfl <;> assumption
 ·obtain ⟨b1,b2,b3⟩:=h.md.bd
  rcases hj with rfl|rfl|rfl <;> assumption
 ·exact own_lt h.wr _ rfl
 ·exact h.ch.lt
theorem StIn.ne (h:StIn W F P S ws):P.mp≠P.s∧(∀j,P.b.has j→j≠P.mp∧j≠P.s∧j≠P.w)∧(∀j,P.d.has j→j≠P.mp∧j≠P.s∧j≠P.w)∧P.w≠P.mp∧P.w≠P.s:=by
 obtain ⟨n,D,h1,-⟩:=h.ch
 have hm:∀{K:MP} {m:Mp},MapIn W K m→∀j,K.has j→j≠P.mp∧j≠P.s∧j≠P.w:=by
  intro K m hk j hj
  rcases hj with rfl|rfl|rfl
  ·exact ⟨cs_mp_ne h1 hk.cs,fun e=>absurd (cs_own_ne hk.cs h.wr (by decide) _ rfl) (by intro;exact (by
    have h2:=hk.cs
    have h3:=h.cs
    rw[←e] at h3
    unfold Cs at h2 h3
    rw[h2] at h3
    simp at h3)),fun e=>cs_own_ne hk.cs h.wr (by decide) _ rfl e.symm⟩
  ·exact ⟨own_mp_ne h1 hk.rn _ rfl,cs_own_ne h.cs hk.rn (by decide) _ rfl,own_own_ne hk.rn h.wr (by decide) _ _ rfl rfl⟩
  ·exact ⟨own_mp_ne h1 hk.ro _ rfl,cs_own_ne h.cs hk.ro (by decide) _ rfl,own_own_ne hk.ro h.wr (by decide) _ _ rfl rfl⟩
 exact ⟨fun e=>cs_mp_ne h1 h.cs e.symm,hm h.mb,hm h.md,own_mp_ne h1 h.wr _ rfl,cs_own_ne h.cs h.wr (by decide) _ rfl⟩
end
end
section
open Go.RowKit
attribute [local go_sem] Oper.semAt_some
section
variable {W W':World} {F F':Nat→Prop} {P:SP} {S:St} {ws:List Nat} {G:Nat→Prop}
def OutF (F:Nat→Prop) (P:SP) (j:Nat):Prop:=F j∧¬P.has j
theorem StIn.putCh (h:StIn W F P S ws) {b:Nat} {n:Nd} (hf:Fr (· =P.mp) W W') (hc:ChIn W' P.mp S.bl.now.length (fun u=>if u=b then some { n with sq:=S.seq } else S.ch u) (OutF F P)):StIn W' F P (S.put b n) ws:=by
 obtain ⟨n1,n2,n3,n4,n5⟩:=h.ne
 exact ⟨h.cs.fr hf (fun e=>n1 e.symm),h.mb.fr hf (fun j hj e=>(n2 j hj).1 e),h.md.fr hf (fun j hj e=>(n3 j hj).1 e),own_fr h.wr hf (fun b hb e=>n4 (by simp[Value.ownBlock] at hb;omega)),h.w64,h.wl,h.dk,hc,h.inF,h.ap,h.sq⟩
end
theorem rput26_any (W:World) (F:Nat→Prop) (P:SP) (S:St) (ws:List Nat) (h:StIn W F P S ws) (b:Nat) (hb:b<S.bl.now.length) (n:Nd) (A:Option Addr) (len c:Nat) (hl:n.es.length=len)
  (hv:NdV W (OutF F P) n (.agg #[.int .i64 (n.lv:Int),.int .i64 (n.sq:Int),.slice A len c])) :
  Calls Tryz.prog 127 #[.pointer (some ⟨P.s,0,none⟩),.int .i64 (b:Int),.agg #[.int .i64 (n.lv:Int),.int .i64 (n.sq:Int),.slice A len c]] W fun e w'=>e=.returned (.tuple #[])∧StIn w' F P (S.put b n) ws∧Fr (· =P.mp) W w':=by
 have hlen:=h.mb.lt
 have x3:W.cell? ⟨P.s,3,none⟩=some (.int .i64 (S.seq:Int)):=h.cs.cell 3
 have x4:W.cell? ⟨P.s,4,none⟩=some (.map (some P.mp)):=h.cs.cell 4
 have hps:=h.cs.lt
 have H:=Hi h
 have HV:=Hi hv
 have HL:=Hi hl
 obtain ⟨lv,hlv⟩ :∃lv,(n.lv:Int)=lv:=⟨_,rfl⟩
 obtain ⟨sq,hsq⟩ :∃sq,(n.sq:Int)=sq:=⟨_,rfl⟩
 rw[hlv,hsq] at HV
 rw[hlv,hsq]
 have HLV:=Hi hlv
 clear h hv hl hlv hsq
 obtain ⟨seq,hseq⟩ :∃q,(S.seq:Int)=q:=⟨_,rfl⟩
 rw[hseq] at x3
 have HSQ:=Hi hseq
 clear hseq
 go_enter Tryz.func127,Tryz.ntmps127
 go_wp2_with fail
 have hbx:Below W.heap.size W (W.alloc (.cells #[.int .i64 lv,.int .i64 seq,.slice A len c] 129)).drew:=((Below.refl _ W).alloc (Nat.le_refl _) _).drew
 have hx0:=box_cells (w:=W) (lv:=lv) (sq:=seq) (A:=A) (n:=len) (c:=c)
 generalize hV:(W.alloc (.cells #[.int .i64 lv,.int .i64 seq,.slice A len c] 129))=V at hbx hx0 ⊢
 clear hV
 obtain ⟨y0,y1,y2⟩:=hx0
 have HK:=Hi (H.out.keep hbx)
 have z4:V.cell? ⟨P.s,4,none⟩=some (.map (some P.mp)):=HK.out.cs.cell 4
 have hnd:NdV V.drew (OutF F P) { n with sq:=S.seq } (.agg #[.int .i64 lv,.int .i64 seq,.slice A len c]):=by
  obtain ⟨A',c',e,h1,h2,h3,h4,h5,h6,h7⟩:=HV.out
  injection e with e
  have e2:=congrArg Array.toList e
  simp only[List.cons.injEq,and_true] at e2
  obtain ⟨e3,e4,e5⟩:=e2
  injection e5 with e5 e6 e7
  subst e5 e7
  refine ⟨A,c,by rw[e3,HL.out,←HSQ.out],h1.keep hbx,h2,fun h0 p hp=>⟨(h3 h0 p hp).1,Nat.lt_of_lt_of_le (h3 h0 p hp).2 hbx.size⟩,h4,h5,Nat.le_trans H.out.sq (by omega),h7⟩
 obtain ⟨W',hrun,hch,hfr⟩:=HK.out.ch.store hb (by omega) hnd (fun j hj e=>hj.2 (.inr (.inr (.inr (.inr e)))))
 have HC:=Hi hch
 clear hch hnd
 go_region
 go_wp2_with fail
 refine bodyPost_end (v:=.tuple #[]) (by simp[results,Tryz.f127,go_sem]) rfl ?_
 exact ⟨rfl,HK.out.putCh hfr HC.out,(Fr.of_below hbx).trans hfr⟩
end
section
open Go.RowKit
attribute [local go_sem] Oper.semAt_some
section
variable {W W':World} {F F':Nat→Prop} {P:SP} {S:St} {ws:List Nat} {G:Nat→Prop}
theorem StIn.blSet (h:StIn W F P S ws) {m:Mp} (hm:MapIn W' P.b m) (hf:Fr (· =P.b.gn) W W') (hl:m.now.length=S.bl.now.length):StIn W' F P { S with bl:=m } ws:=by
 obtain ⟨n1,n2,n3,n4,n5⟩:=h.ne
 obtain ⟨k1,k2,k3⟩:=n2 P.b.gn (.inr (.inl rfl))
 refine ⟨h.cs.fr hf (fun e=>k2 e.symm),hm,h.md.fr hf (fun j hj e=>h.ap j (.inr (.inl e)) hj),own_fr h.wr hf (fun b hb e=>k3 (by simp[Value.ownBlock] at hb;omega)),h.w64,h.wl,h.dk,?_,h.inF,h.ap,h.sq⟩
 show ChIn W' P.mp m.now.length S.ch _
 rw[hl]
 exact h.ch.fr hf (fun e=>k1 e.symm) (fun j hj e=>hj.2 (.inr (.inl (.inr (.inl e)))))
theorem StIn.daSet (h:StIn W F P S ws) {m:Mp} (hm:MapIn W' P.d m) (hf:Fr (· =P.d.gn) W W'):StIn W' F P { S with da:=m } ws:=by
 obtain ⟨n1,n2,n3,n4,n5⟩:=h.ne
 obtain ⟨k1,k2,k3⟩:=n3 P.d.gn (.inr (.inl rfl))
 exact ⟨h.cs.fr hf (fun e=>k2 e.symm),h.mb.fr hf (fun j hj e=>h.ap j hj (.inr (.inl e))),hm,own_fr h.wr hf (fun b hb e=>k3 (by simp[Value.ownBlock] at hb;omega)),h.w64,h.wl,h.dk,h.ch.fr hf (fun e=>k1 e.symm) (fun j hj e=>hj.2 (.inr (.inr (.inl (.inr (.inl e)))))),h.inF,h.ap,h.sq⟩
theorem has_bn {P:SP}:∀j,j=P.b.gn→P.has j:=fun j e=>.inr (.inl (.inr (.inl e)))
theorem has_dn {P:SP}:∀j,j=P.d.gn→P.has j:=fun j e=>.inr (.inr (.inl (.inr (.inl e))))
theorem has_mp {P:SP}:∀j,j=P.mp→P.has j:=fun j e=>.inr (.inr (.inr (.inr e)))
theorem Fr.has {P:SP} {W W':World} {G:Nat→Prop} (h:Fr G W W') (hg:∀j,G j→P.has j):Fr P.has W W':=h.mono (fun j _ hj=>hg j hj)
end
theorem rfresh_any (W:World) (F:Nat→Prop) (P:SP) (S:St) (ws:List Nat) (h:StIn W F P S ws) (b:Nat) (hp:S.bl.pick=some b) (n:Nd) (A:Option Addr) (len c:Nat) (hl:n.es.length=len)
  (hv:NdV W (OutF F P) n (.agg #[.int .i64 (n.lv:Int),.int .i64 (n.sq:Int),.slice A len c])) :
  Calls Tryz.prog 119 #[.pointer (some ⟨P.s,0,none⟩),.agg #[.int .i64 (n.lv:Int),.int .i64 (n.sq:Int),.slice A len c]] W fun e w'=>e=.returned (.tuple #[.int .i64 (b:Int),.int .i64 0])∧StIn w' F P (({ S with bl:=S.bl.setN b 1 }:St).put b n) ws∧Fr P.has W w':=by
 have hbx:Below W.heap.size W (W.alloc (.cells #[.int .i64 (n.lv:Int),.int .i64 (n.sq:Int),.slice A len c] 129)):=(Below.refl _ W).alloc (Nat.le_refl _) _
 have hx0:=box_cells (w:=W) (lv:=(n.lv:Int)) (sq:=(n.sq:Int)) (A:=A) (n:=len) (c:=c)
 have hltP:=h.lt P.b.gn (has_bn _ rfl)
 have H:=Hi (h.keep hbx)
 have HV:=Hi (hv.fr (Fr.of_below (G:=fun _=>False) hbx) (fun _ _ q=>q))
 have HL:=Hi hl
 obtain ⟨p1,p2,p3⟩:=Mp.pick_some hp
 clear h hv hl
 go_enter Tryz.func119,Tryz.ntmps119
 generalize hV:(W.alloc (.cells #[.int .i64 (n.lv:Int),.int .i64 (n.sq:Int),.slice A len c] 129))=V at hbx hx0 H HV
 have x1:V.cell? ⟨P.s,1,none⟩=some (.pointer (some ⟨P.b.p,0,none⟩)):=H.out.cs.cell 1
 go_wp2_with (rw[hV])
 have hsz:V.heap.size=W.heap.size+1:=by rw[←hV];simp
 have hT:S.bl.took=S.bl.setN b 1:=by unfold Mp.took;rw[hp]
 have hN:S.bl.pickN=b:=by unfold Mp.pickN;rw[hp];rfl
 have hE:S.bl.pickE=0:=by unfold Mp.pickE;rw[hp];rfl
 have hal:=ralloc_any H.out.mb
 rw[hT,hN,hE] at hal
 clear hT hN hE hV
 refine hal.mono ?_
 rintro e w1 ⟨rfl,hm1,hf1⟩
 have hne:¬W.heap.size=P.b.gn:=by omega
 have y0:=(hf1.cell (b:=W.heap.size) (i:=0) (by omega) hne).trans hx0.1
 have y1:=(hf1.cell (b:=W.heap.size) (i:=1) (by omega) hne).trans hx0.2.1
 have y2:=(hf1.cell (b:=W.heap.size) (i:=2) (by omega) hne).trans hx0.2.2
 have H1:=Hi (H.out.blSet hm1 hf1 (Mp.setN_len _ _ _))
 have HV1:=Hi (HV.out.fr hf1 (fun j hj e=>hj.2 (has_bn _ e)))
 have F1:=Hi (hf1.has has_bn)
 clear hm1 hf1
 go_wp2_with fail
 go_at_call 127
 refine (rput26_any w1 F P _ ws H1.out b (by show b<(S.bl.setN b 1).now.length;rw[Mp.setN_len];exact p1) n A len c HL.out HV1.out).mono ?_
 rintro e w2 ⟨rfl,h2,f2⟩
 have H2:=Hi h2
 have F2:=Hi (f2.has has_mp)
 clear h2 f2
 go_wp2_with fail
 go_ret2
 exact ⟨rfl,H2.out,(Fr.of_below hbx).trans (F1.out.trans F2.out)⟩
end
end Go.Proofs.YtplhdjdkobddnaaGreat
