/- OkB CtR CtS -/
import Derived.Test.YtplhdjdkobddnaaGreatTr36
import Derived.Test.YtplhdjdkobddnaaGreatTr37
set_option linter.unusedVariables false
set_option maxRecDepth 100000
set_option maxHeartbeats 40000000
namespace Go.Proofs.YtplhdjdkobddnaaGreat
section
open Go.RowKit
def zM (data root u:Nat):Bool:=decide (u<2 * arB data+1∨u=root)
structure RtOk (S:St) (Z:Nat→Bool) (G:Gh) (N r:Nat):Prop where
 ex:∃n,S.nd Z r=some n∧(n.lv≠0→2≤n.es.length)∧rP G r n.lv+rQ G r n.lv≤N
structure DvOk (m:Mt) (G:Gh) (N:Nat) (d:Dv):Prop where
 id:d.id≤65535
 rt:RtOk m.S (zM m.data m.root) G N d.rt
 k:G.K d.rt=true
 tm:d.tm≤m.time
 mp:(G.E d.rt).length=d.mp
 mn:d.mp≤N
 es:∀e∈G.E d.rt,dOf e.2<m.data∧e.2 / 16777216 % 1048576≤m.time∧e.2<17592186044416
structure MtX (m:Mt) (L:List Dv) (Nt N f:Nat) (G:Gh):Prop where
 inv:Inv m.S (zM m.data m.root) (m.tree :: L.map Dv.rt) m.pe G
 kt:G.K m.tree=false
 rt:RtOk m.S (zM m.data m.root) G Nt m.tree
 dv:∀d∈L,DvOk m G N d
 et:G.E m.tree=dvE m.dv
 ll:L.length≤N
 pl:m.pe.length≤1000
 tl:m.time≤N
 sl:m.seq≤N
 ss:m.S.seq=m.seq+1
 z1:∀u,zM m.data m.root u=true→m.S.bl.count u=1∧m.S.ch u=none
 rl:2 * arB m.data+1≤m.root
 bn:m.S.bl.now.length=blN m.ws.length
 dn:m.S.da.now.length=m.data
 d1:1≤m.data
 d2:m.data≤16384
 c1:1≤m.chunk
 c2:m.chunk≤64
 ar:m.area≤1
 sz:(2 * arB m.data+49) * 16≤m.ws.length
 wl:m.ws.length≤100000
 dk:m.S.dk=dkW m.ws
 w6:W64 m.ws
 fr:f≤m.S.bl.free
 nt:Nt≤100
 nn:N≤100
theorem hP_le {l:Nat} (h:hP l≤100):l≤2:=by
 rcases Nat.lt_or_ge l 3 with q|q
 ·omega
 ·exfalso
  obtain ⟨k,rfl⟩ :∃k,l=k+3:=⟨l - 3,by omega⟩
  have h2:4 ^ (k+2)=16 * 4 ^ k:=by rw[Nat.pow_add];omega
  have h1:hP (k+3)=hP (k+2)+6 * 4 ^ (k+2):=rfl
  have h4:hP (k+2)=hP (k+1)+6 * 4 ^ (k+1):=rfl
  have h5:4 ^ (k+1)=4 * 4 ^ k:=by rw[Nat.pow_add];omega
  have h6:8≤hP (k+1):=by
   show 8≤hP k+_
   rcases k with _|k
   ·rw[if_pos rfl];omega
   ·rw[if_neg (by omega)]
    have:=Nat.one_le_two_pow (n:=2 * k)
    have:1≤4 ^ (k+1):=Nat.one_le_pow _ _ (by omega)
    have:4 ^ (k+1)=4 * 4 ^ k:=by rw[Nat.pow_add];omega
    omega
  have:1≤4 ^ k:=Nat.one_le_pow _ _ (by omega)
  omega
theorem rP_lv {G:Gh} {r l N:Nat} (h:rP G r l+rQ G r l≤N) (hN:N≤100):l≤2:=hP_le (by unfold rP at h;omega)
theorem oldD_false (l:List (Int × Nat)) (key:Int):oldD false l key= []:=by
 unfold oldD dv
 split <;> rfl
section
variable {S S':St} {Z:Nat→Bool} {rs pd:List Nat} {G G':Gh} {N N' r:Nat} {m m':Mt} {d:Dv} {L:List Dv} {Nt f:Nat}
theorem RtOk.keep (h:RtOk S Z G N r) (hk:Keep S S' Z rs G G') (hr:r∈rs) (hN:N≤N'):RtOk S' Z G' N' r:=by
 obtain ⟨n,h1,h2,h3⟩:=h.ex
 have g1:=hk.gh2 r hr
 refine ⟨n,by rw[hk.nd r hr];exact h1,h2,?_⟩
 unfold rP rQ at h3 ⊢
 rw[g1.1,g1.2.1,g1.2.2.2]
 omega
theorem DvOk.keep (h:DvOk m G N d) (hk:Keep m.S m'.S (zM m.data m.root) rs G G') (hr:d.rt∈rs) (hN:N≤N') (h1:m'.data=m.data) (h2:m'.root=m.root) (h3:m.time≤m'.time):DvOk m' G' N' d:=by
 have g1:=hk.gh d.rt hr
 refine ⟨h.id,?_,by rw[g1.2.2.2];exact h.k,Nat.le_trans h.tm h3,by rw[g1.1];exact h.mp,Nat.le_trans h.mn hN,fun e he=>?_⟩
 ·rw[h1,h2]
  exact h.rt.keep hk hr hN
 ·rw[g1.1] at he
  rw[h1]
  exact ⟨(h.es e he).1,Nat.le_trans (h.es e he).2.1 h3,(h.es e he).2.2⟩
theorem MtX.len4 (h:MtX m L Nt N f G):m.S.bl.now.length≤4096:=by rw[h.bn];unfold blN;omega
theorem MtX.srt (h:MtX m L Nt N f G):SrtD m.dv:=by
 obtain ⟨n,h1,_⟩:=h.rt.ex
 have:=(h.inv.keys n.lv m.tree n h1 rfl).2.2
 rw[h.et] at this
 exact srt_of this
theorem MtX.rt_lt (h:MtX m L Nt N f G) {d:Dv} (hd:d∈L):d.rt<4096:=by
 obtain ⟨n,h1,_⟩:=(h.dv d hd).rt.ex
 have:=nd_lt h1
 have:=h.len4
 omega
theorem MtX.tree_lt (h:MtX m L Nt N f G):m.tree<4096:=by
 obtain ⟨n,h1,_⟩:=h.rt.ex
 have:=nd_lt h1
 have:=h.len4
 omega
theorem MtX.val_lt (h:MtX m L Nt N f G) {d:Dv} (hd:d∈L):d.val<18446744073709551616∧d.rt<1048576∧d.tm<1048576∧d.mp<16777216:=by
 have h1:=h.rt_lt hd
 have h2:=(h.dv d hd).tm
 have h3:=(h.dv d hd).mn
 have h4:=h.tl
 have h5:=h.nn
 unfold Dv.val dvV
 omega
theorem insC_of {P:SP} {ws:List Nat} {k:Bool} {key v t:Nat} {n:Nd} (hI:Inv S Z (r :: rs) (dv k v++pd) G) (hn:S.nd Z r=some n) (hK:G.K r=k) (hkr:key<16777216) (hv:v<18446744073709551616) (hl8:n.lv≤7) (hb1:rs.length+7 * S.bl.now.length+64≤60000) (hb2:pd.length+1+7 * S.bl.now.length+64≤60000)
  (hi:S.insert k (key:Int) v r=some (t,S')):InsC P ws S k r key v t S' ((lookE (G.E r) (key:Int)).getD 0) (lookE (G.E r) (key:Int)).isSome:=by
 intro F w hs
 refine (rinsert26_any w F P S ws hs Z rs pd G r k (key:Int) v hI n hn hK (by omega) hv hl8 hb1 hb2).mono ?_
 rintro e w' ⟨q1,q2| ⟨t1,S1,q2,q3,q4⟩⟩
 ·rw[hi] at q2
  cases q2.1
 ·rw[hi] at q2
  cases q2
  exact ⟨q1,q3,q4⟩
def LeafT (m:Mt):Prop:=∃n,m.S.load m.tree=some n∧n.lv=0
theorem leaf_keep (hr:RtOk m.S Z G N m.tree) (hk:Keep m.S S' Z rs G G') (hin:m.tree∈rs) (hl:LeafT m):∃n,S'.load m.tree=some n∧n.lv=0:=by
 obtain ⟨n,h1,h2⟩:=hl
 obtain ⟨n',q1,-⟩:=hr.ex
 have e:=hk.nd m.tree hin
 rw[q1] at e
 have q2:=(nd_count q1).2.2
 have q3:=(nd_count e).2.2
 rw[h1] at q2
 cases q2
 exact ⟨n,q3,h2⟩
theorem insert_leaf {k:Bool} {key:Int} {v t:Nat} {n:Nd} (hn:S.load r=some n) (h0:n.lv=0) (hl:(putN n.es key v).length≤7) (hi:S.insert k key v r=some (t,S')):∃n',S'.load t=some n'∧n'.lv=0:=by
 unfold St.insert at hi
 rw[hn] at hi
 simp only[h0] at hi
 unfold St.ins at hi
 cases ht:S.touch r n k with
 |none=>rw[ht] at hi;cases hi
 |some p=>
  obtain ⟨c,S1⟩:=p
  rw[ht] at hi
  unfold St.fin at hi
  simp only[if_pos hl] at hi
  cases hi
  refine ⟨{ n with es:=putN n.es key v,sq:=S1.seq },?_,h0⟩
  unfold St.load
  rw[put_ch]
theorem delete_leaf {k:Bool} {key:Int} {t:Nat} {n:Nd} (hn:S.load r=some n) (h0:n.lv=0) (hi:S.delete k key r=some (t,S')):∃n',S'.load t=some n'∧n'.lv=0:=by
 unfold St.delete at hi
 rw[hn] at hi
 simp only[h0] at hi
 unfold St.rem at hi
 cases ht:S.touch r n k with
 |none=>rw[ht] at hi;cases hi
 |some p=>
  obtain ⟨c,S1⟩:=p
  rw[ht] at hi
  simp only[St.lop] at hi
  cases hi
  refine ⟨{ n with es:=delN n.es (findN n.es key).toNat,sq:=S1.seq },?_,h0⟩
  unfold St.load
  rw[put_ch]
theorem setD_ok (h:MtX m (insF m.dv d) Nt N 13 G) (hNt:Nt+1≤100):∃t S' old had G',(∀P,InsC P m.ws m.S false m.tree d.id d.val t S' old had)∧MtX (m.setD d t S') (insF m.dv d) (Nt+1) N 6 G'∧(LeafT m→m.dv.length≤6→LeafT (m.setD d t S')):=by
 have hsr:=h.srt
 have hdin:=(insF_in hsr d).1
 obtain ⟨n,hn,hn2,hp⟩:=h.rt.ex
 have hlv:=rP_lv hp h.nt
 have hdk:=h.dv d hdin
 have hid:=hdk.id
 have hv:=h.val_lt hdin
 have h4:=h.len4
 have hll:((insF m.dv d).map Dv.rt).length≤N:=by rw[List.length_map];exact h.ll
 have hnn:=h.nn
 have hpl:=h.pl
 have hi:=insert_ok (key:=(d.id:Int)) (v:=d.val) (k:=false) (by omega) (pd:=m.pe) h.inv hn h.kt (by omega) hn2
 cases hq:m.S.insert false (d.id:Int) d.val m.tree with
 |none=>
  rw[hq] at hi
  have:=h.fr
  have hi2:m.S.bl.free<2 * (n.lv+1)+1:=hi
  omega
 |some p=>
  obtain ⟨t,S'⟩:=p
  rw[hq] at hi
  obtain ⟨G',nt,hT,h5,h6,h7,h8⟩:=hi
  refine ⟨t,S',_,_,G',fun P=>insC_of (pd:=m.pe) h.inv hn h.kt (by omega) hv.1 (by omega) (by omega) (by omega) hq,?_⟩
  have hk:=hT.keep
  have hinv:=hT.inv
  rw[oldD_false] at hinv
  refine ⟨?_,fun hlf h6l=>?_⟩
  rotate_left
  ·obtain ⟨n1,g1,g2⟩:=hlf
   have g3:=(nd_count hn).2.2
   rw[g1] at g3
   cases g3
   have g4:G.E m.tree=n.es:=by
    rw[(h.inv.nd _ _ hn).e]
    unfold eOf
    rw[if_pos g2]
   rw[h.et] at g4
   have g5:AscE n.es:=(h.inv.nd _ _ hn).f.asc
   refine insert_leaf g1 g2 ?_ hq
   rw[putN_eq g5,insE_len g5,←g4]
   have:(dvE m.dv).length=m.dv.length:=by simp[dvE]
   rw[this]
   split <;> omega
  refine ⟨hinv,hT.kd,⟨nt,h5,h6,by show rP G' t nt.lv+rQ G' t nt.lv≤Nt+1;omega⟩,fun x hx=>(h.dv x hx).keep hk (List.mem_map_of_mem hx) (Nat.le_refl _) rfl rfl (Nat.le_refl _),?_,h.ll,h.pl,h.tl,h.sl,hk.sq.trans h.ss,fun u hu=>?_,h.rl,hk.bn.trans h.bn,hk.dl.trans h.dn,h.d1,h.d2,h.c1,h.c2,h.ar,h.sz,h.wl,hk.dk.trans h.dk,h.w6,?_,hNt,h.nn⟩
  ·show G'.E t=dvE (insF m.dv d)
   rw[hT.con,h.et,insF_dvE hsr]
  ·have hz:zM m.data m.root u=true:=hu
   have:=hk.zk u hz
   show S'.bl.count u=1∧S'.ch u=none
   rw[this.1,this.2]
   exact h.z1 u hz
  ·have:=hT.fr
   have:=h.fr
   show 6≤S'.bl.free
   omega
theorem MtX.up (h:MtX m L Nt N f G) (hN:N≤N') (h1:N'≤100) {Nt':Nat} (h2:Nt≤Nt') (h3:Nt'≤100):MtX m L Nt' N' f G:=by
 obtain ⟨n,q1,q2,q3⟩:=h.rt.ex
 exact { h with rt:=⟨n,q1,q2,by omega⟩,dv:=fun d hd=>(h.dv d hd).keep (Keep.refl _ _ _ _) (List.mem_map_of_mem hd) hN rfl rfl (Nat.le_refl _),ll:=Nat.le_trans h.ll hN,tl:=Nat.le_trans h.tl hN,sl:=Nat.le_trans h.sl hN,nt:=h3,nn:=h1 }
theorem create_ok (h:MtX m m.dv Nt N 6 G) {id:Nat} (hid:id≤65535) (hE:m.createE id=0) (hN:N+1≤100) (hNt:Nt+1≤100) :
  ∃b t S' old had G',m.S.bl.pick=some b∧b<4096∧(∀P,InsC P m.ws (m.newS b).S false m.tree id (Dv.mk id b m.time 0).val t S' old had)∧MtX ((m.newS b).setD ⟨id,b,m.time,0⟩ t S') (insF m.dv ⟨id,b,m.time,0⟩) (Nt+1) (N+1) 6 G'∧(LeafT m→m.dv.length≤6→LeafT ((m.newS b).setD ⟨id,b,m.time,0⟩ t S')):=by
 obtain ⟨e1,e2,e3⟩:=createE_ok hE
 have he:=empty_ok h.inv true
 unfold St.empty at he
 cases hp:m.S.bl.pick with
 |none=>
  rw[hp] at he
  have he2:m.S.bl.free=0:=he
  omega
 |some b=>
  rw[hp] at he
  obtain ⟨G1,hT,h5,h6,h7⟩:=he
  have hk:=hT.keep
  have hsr:=h.srt
  have hX:MtX (m.newS b) (insF (m.newS b).dv ⟨id,b,m.time,0⟩) Nt (N+1) 13 G1:=by
   refine ⟨hT.inv.perm (fun u=>?_) (fun _=>rfl),?_,h.rt.keep hk List.mem_cons_self (Nat.le_refl _),fun x hx=>?_,?_,?_,h.pl,Nat.le_succ_of_le h.tl,Nat.le_succ_of_le h.sl,hk.sq.trans h.ss,fun u hu=>?_,h.rl,hk.bn.trans h.bn,hk.dl.trans h.dn,h.d1,h.d2,h.c1,h.c2,h.ar,h.sz,h.wl,hk.dk.trans h.dk,h.w6,?_,h.nt,hN⟩
   ·have hh:=insF_roots hsr ⟨id,b,m.time,0⟩ m.tree u _ id rfl rfl
    rw[oth_no e1] at hh
    exact hh
   ·show G1.K m.tree=false
    rw[(hk.gh m.tree List.mem_cons_self).2.2.2]
    exact h.kt
   ·rcases insF_mem (l:=m.dv) hsr hx with rfl| ⟨q,_⟩
    ·refine ⟨hid,⟨_,h5,fun q=>absurd rfl q,?_⟩,hT.kd,Nat.le_refl _,?_,Nat.zero_le _,fun e he=>?_⟩
     ·show rP G1 b 0+rQ G1 b 0≤N+1
      omega
     ·show (G1.E b).length=0
      rw[hT.con]
      rfl
     ·have he2:e∈G1.E b:=he
      rw[hT.con] at he2
      cases he2
    ·exact (h.dv x q).keep hk (List.mem_cons_of_mem _ (List.mem_map_of_mem q)) (Nat.le_succ _) rfl rfl (Nat.le_refl _)
   ·show G1.E m.tree=dvE m.dv
    rw[(hk.gh m.tree List.mem_cons_self).1]
    exact h.et
   ·have:=insF_len (l:=m.dv) hsr ⟨id,b,m.time,0⟩
    have:=h.ll
    show (insF m.dv _).length≤N+1
    omega
   ·have hz:zM m.data m.root u=true:=hu
    have:=hk.zk u hz
    have hh:=h.z1 u hz
    exact ⟨this.1.trans hh.1,this.2.trans hh.2⟩
   ·have hfr:=hT.fr
    have e:(({ m.S with bl:=m.S.bl.setN b 1 }:St).put b ⟨0,0,[]⟩).bl.free=(m.newS b).S.bl.free:=rfl
    rw[e] at hfr
    omega
  obtain ⟨t,S',old,had,G',q1,q2,q3⟩:=setD_ok hX hNt
  exact ⟨b,t,S',old,had,G',rfl,by have:=(Mp.pick_some hp).1;have:=h.len4;omega,q1,q2,fun hl h6=>q3 (leaf_keep (m:=m) h.rt hk List.mem_cons_self hl) h6⟩
theorem snap_ok (h:MtX m m.dv Nt N 6 G) {id org:Nat} (hid:id≤65535) (hE:m.snapE id org=0) (hN:N+1≤100) (hNt:Nt+1≤100) :
  ∃t S' old had G',m.S.bl.incE (dvAt m.dv org).rt=0∧dvAt m.dv org∈m.dv∧(∀P,InsC P m.ws (m.incS (dvAt m.dv org).rt).S false m.tree id (Dv.mk id (dvAt m.dv org).rt (m.time+1) (dvAt m.dv org).mp).val t S' old had)∧
   MtX ((m.incS (dvAt m.dv org).rt).setD ⟨id,(dvAt m.dv org).rt,m.time+1,(dvAt m.dv org).mp⟩ t S') (insF m.dv ⟨id,(dvAt m.dv org).rt,m.time+1,(dvAt m.dv org).mp⟩) (Nt+1) (N+1) 6 G'∧(LeafT m→m.dv.length≤6→LeafT ((m.incS (dvAt m.dv org).rt).setD ⟨id,(dvAt m.dv org).rt,m.time+1,(dvAt m.dv org).mp⟩ t S')):=by
 obtain ⟨e1,e2,e3,e4,e5⟩:=snapE_ok hE
 have hsr:=h.srt
 obtain ⟨pre,post,hl,-,-,-,-,-⟩:=dv_split hsr e2
 have hin:dvAt m.dv org∈m.dv:=by
  have:dvAt m.dv org∈pre++dvAt m.dv org :: post:=List.mem_append_right _ List.mem_cons_self
  rw[←hl] at this
  exact this
 obtain ⟨o,ho⟩ :∃o,dvAt m.dv org=o:=⟨_,rfl⟩
 rw[ho] at hin ⊢
 have hok:=h.dv o hin
 obtain ⟨n,hn,hn2,hp⟩:=hok.rt.ex
 obtain ⟨hI,hnd,hk0,hfr⟩:=h.inv.ref hn
 have hk:Keep m.S { m.S with bl:=m.S.bl.inc o.rt } (zM m.data m.root) (m.tree :: m.dv.map Dv.rt) G G:=hk0
 have hX:MtX (m.incS o.rt) (insF (m.incS o.rt).dv ⟨id,o.rt,m.time+1,o.mp⟩) Nt (N+1) 13 G:=by
  refine ⟨hI.perm (fun u=>?_) (fun _=>rfl),h.kt,h.rt.keep hk List.mem_cons_self (Nat.le_refl _),fun x hx=>?_,h.et,?_,h.pl,Nat.succ_le_succ h.tl,Nat.le_succ_of_le h.sl,h.ss,fun u hu=>?_,h.rl,hk.bn.trans h.bn,h.dn,h.d1,h.d2,h.c1,h.c2,h.ar,h.sz,h.wl,h.dk,h.w6,?_,h.nt,hN⟩
  ·have hh:=insF_roots hsr ⟨id,o.rt,m.time+1,o.mp⟩ m.tree u _ id rfl rfl
   rw[oth_no e1] at hh
   exact hh
  ·rcases insF_mem (l:=m.dv) hsr hx with rfl| ⟨q,_⟩
   ·have hk2:=hok.keep (m':=m.incS o.rt) hk (List.mem_cons_of_mem _ (List.mem_map_of_mem hin)) (Nat.le_succ N) rfl rfl (Nat.le_succ _)
    exact ⟨hid,hk2.rt,hk2.k,Nat.le_refl _,hk2.mp,hk2.mn,hk2.es⟩
   ·exact (h.dv x q).keep hk (List.mem_cons_of_mem _ (List.mem_map_of_mem q)) (Nat.le_succ _) rfl rfl (Nat.le_succ _)
  ·have:=insF_len (l:=m.dv) hsr ⟨id,o.rt,m.time+1,o.mp⟩
   have:=h.ll
   show (insF m.dv _).length≤N+1
   omega
  ·have hz:zM m.data m.root u=true:=hu
   have:=hk.zk u hz
   have hh:=h.z1 u hz
   exact ⟨this.1.trans hh.1,this.2.trans hh.2⟩
  ·show 13≤(m.S.bl.inc o.rt).free
   omega
 obtain ⟨t,S',old,had,G',q1,q2,q3⟩:=setD_ok hX hNt
 refine ⟨t,S',old,had,G',?_,hin,q1,q2,fun hl h6=>q3 (leaf_keep (m:=m) h.rt hk List.mem_cons_self hl) h6⟩
 have hc:=nd_count hn
 have hlt:=nd_lt hn
 have hsm:=h.inv.small o.rt hc.2.1
 have h4:=h.len4
 have hll:=h.ll
 have hnn:=h.nn
 rw[List.length_cons,List.length_map] at hsm
 unfold Mp.incE
 rw[if_neg (by omega),if_neg hc.1,if_neg (by omega)]
end
end
section
def DscOk:List (Nat × Nat)→St→Prop
 | [],_=>True
 |(b,_) :: up,S=>S.bl.count b≠0∧(∃n,S.ch b=some n∧n.es.length≤8)∧((∃n,S.ch b=some n∧n.es= [])→match up with
  | []=>True
  |(b',i') :: _=>(∃n',S.ch b'=some n'∧i'<n'.es.length∧n'.es.length≤8)∧∀n',S.ch b'=some n'→DscOk up (({ S with bl:=S.bl.dec b }:St).put b' { n' with es:=delN n'.es i' }))
def LopOk:Nat→St→Nat→Prop
 |0,S,b=>b<S.bl.now.length∧∃n,S.load b=some n∧n.lv=0
 |l+1,S,b=>S.bl.count b≠0∧∃n,S.load b=some n∧n.lv=l+1∧(n.es.length=1→(n.es[0]?.getD (0,0)).2<S.bl.now.length∧LopOk l { S with bl:=S.bl.dec b } (n.es[0]?.getD (0,0)).2)
section
variable {S T:St} {Z:Nat→Bool} {rs pd:List Nat} {G:Gh} {b c r:Nat} {n:Nd} {k:Bool} {key:Int} {v:Nat}
theorem dscOk_snoc (d j i:Nat):∀(l:List (Nat × Nat)) (S:St),DscOk l S→l.getLast? =some (d,j)→
  (∀S1,St.dsc l S=(true,S1)→b≠d∧S1.bl.count b≠0∧∃n',S1.ch b=some n'∧i<n'.es.length∧n'.es.length≤8)→DscOk (l++ [(b,i)]) S:=by
 intro l
 induction l with
 |nil=>intro S _ h _;cases h
 |cons a l ih=>
  intro S hok hl hh
  obtain ⟨b0,i0⟩:=a
  obtain ⟨h1,⟨n0,h2,h3⟩,h4⟩:=hok
  show DscOk ((b0,i0) :: (l++ [(b,i)])) S
  refine ⟨h1,⟨n0,h2,h3⟩,fun hx=>?_⟩
  obtain ⟨n0',hn0,he⟩:=hx
  rw[h2] at hn0
  injection hn0 with hn0
  subst hn0
  have h5:=h4 ⟨n0,h2,he⟩
  unfold St.dsc at hh
  rw[h2] at hh
  dsimp only at hh
  rw[if_neg (by simp[he])] at hh
  rcases l with _| ⟨⟨b1,i1⟩,l⟩
  ·dsimp only[List.nil_append] at hh ⊢
   simp at hl
   obtain ⟨rfl,rfl⟩:=hl
   obtain ⟨q1,q2,n',q3,q4,q5⟩:=hh S rfl
   refine ⟨⟨n',q3,q4,q5⟩,fun n'' hn''=>?_⟩
   rw[q3] at hn''
   injection hn'' with hn''
   subst hn''
   refine ⟨?_,⟨_,put_ch _ _ _,?_⟩,fun _=>trivial⟩
   ·show (S.bl.dec b0).count b≠0
    rw[Mp.count_dec (Mp.lt_of_count h1),if_neg q1]
    exact q2
   ·show (delN n'.es i).length≤8
    unfold delN
    simp
    omega
  ·rw[List.getLast?_cons_cons] at hl
   dsimp only[List.cons_append] at hh h5 ⊢
   obtain ⟨⟨n1,q1,q2,q3⟩,h6⟩:=h5
   rw[q1] at hh
   dsimp only at hh
   exact ⟨⟨n1,q1,q2,q3⟩,fun n' hn'=>ih _ (h6 n' hn') hl (by rw[q1] at hn';injection hn' with hn';subst hn';exact hh)⟩
theorem rem_dscOk:∀(l:Nat) (S T:St) (Z:Nat→Bool) (rs pd:List Nat) (G:Gh) (b:Nat) (n:Nd) (w:Nat),Inv S Z (b :: rs) pd G→S.nd Z b=some n→n.lv=l→G.K b=k→lookE (G.E b) key=some w→Off Z S T→
  ∀c T1 st T2,T.rt b n k=some (c,T1)→T1.way k false key l c n=some (st,T2)→DscOk st.reverse (T2.leafRem key (leafOf st))∧∃m,T2.ch (leafOf st)=some m∧(findN m.es key).toNat<m.es.length∧0≤findN m.es key∧m.es.length≤7:=by
 intro l
 induction l with
 |zero=>
  intro S T Z rs pd G b n w h hn hl hK hw hT c T1 st T2 hq hwy
  have ho:=h.nd b n hn
  have eE:G.E b=n.es:=by rw[ho.e];unfold eOf;rw[if_pos hl]
  rw[eE] at hw
  obtain ⟨pre,post,hes,hfi,hpre,hpost⟩:=find_has ho.f.asc hw
  have hf0:0≤findN n.es key:=by
   rcases find_split ho.f.asc key with ⟨f1,f2⟩| ⟨pre',e0,post',hes',f2,-⟩
   ·have:=f2 (key,w) (by rw[hes];simp)
    simp at this
   ·omega
  unfold St.rt at hq
  rw[hT.touch] at hq
  rcases ht:S.touch b n k with _| ⟨c',S1⟩
  ·rw[ht] at hq;cases hq
  ·rw[ht,Option.map_some] at hq
   injection hq with hq
   injection hq with h1 h2
   subst h1 h2
   unfold St.way at hwy
   injection hwy with hwy
   injection hwy with h1 h2
   subst h1 h2
   rw[←hK] at ht
   obtain ⟨o1,o2,o3,o4,o5,o6⟩:=h.open hn ht
   have hlf:leafOf [(c',0)]=c':=rfl
   have hrv: [(c',0)].reverse= [(c',(0:Nat))]:=rfl
   rw[hlf,hrv]
   have hlp:(St.put { T with bl:=S1.bl,da:=S1.da } c' n).leafRem key c'=(St.put { T with bl:=S1.bl,da:=S1.da } c' { n with es:=delN n.es (findN n.es key).toNat }):=by
    unfold St.leafRem
    rw[put_ch]
    dsimp only
    rw[put_put]
    rfl
   dsimp only
   rw[hlp]
   have hl7:=ho.ln
   refine ⟨⟨by show S1.bl.count c'≠0;omega,⟨_,put_ch _ _ _,?_⟩,fun _=>trivial⟩,_,put_ch _ _ _,?_,hf0,hl7⟩
   ·show (delN n.es (findN n.es key).toNat).length≤8
    unfold delN
    simp
    omega
   ·show (findN n.es key).toNat<n.es.length
    rw[hfi,hes]
    simp
 |succ l ih=>
  intro S T Z rs pd G b n w h hn hl hK hw hT c T1 st T2 hq hwy
  have ho:=h.nd b n hn
  have hl0:n.lv≠0:=by omega
  have hasc:=ho.f.asc
  have eE:G.E b=n.es.flatMap (fun e=>G.E e.2):=by rw[ho.e];unfold eOf;rw[if_neg hl0]
  have hkE:∀e∈n.es,∀q∈G.E e.2,q.1∈G.A e.2∧e.1≤q.1:=fun e he q hq=>by
   obtain ⟨m',q1,q2,q3,q4⟩:=ho.f.kid hl0 e he
   have:=(h.keys m'.lv e.2 m' q1 rfl).1 q hq
   exact ⟨this,q4 _ this⟩
  have hwm:(key,w)∈G.E b:=by
   unfold lookE at hw
   rcases hf:(G.E b).find? (fun e=>decide (e.1=key)) with _|e
   ·rw[hf] at hw;cases hw
   ·rw[hf] at hw
    injection hw with hw
    have h1:=List.find?_some hf
    have h2:=List.mem_of_find?_eq_some hf
    simp at h1
    rw[←h1,←hw]
    exact h2
  obtain ⟨ek,hek,hwk⟩:=List.mem_flatMap.1 (eE▸hwm)
  have hle:=(hkE ek hek _ hwk).2
  rcases find_split hasc key with ⟨f1,f2⟩| ⟨pre,e0,post,hes,f2,f3,f4,f5⟩
  ·have:=f2 ek hek
   simp at hle
   omega
  ·have hfi:(findN n.es key).toNat=pre.length:=by rw[f2];simp
   have hnn:¬findN n.es key<0:=by rw[f2];omega
   obtain ⟨g1,g2,g3⟩:=take_len pre e0 post
   have hget:n.es[(findN n.es key).toNat]?.getD (0,0)=e0:=by rw[hfi,hes,g3];rfl
   have hilt:(findN n.es key).toNat<n.es.length:=by rw[hfi,hes];simp
   have hee:e0∈n.es:=by rw[hes];simp
   have hpe:∀e∈pre,e∈n.es:=fun e he=>by rw[hes];exact List.mem_append_left _ he
   have hqe:∀e∈post,e∈n.es:=fun e he=>by rw[hes];exact List.mem_append_right _ (List.mem_cons_of_mem _ he)
   obtain ⟨m,hm1,hm2,hm3,hm4⟩:=ho.f.kid hl0 e0 hee
   rw[hK] at hm3
   have hsep:=ho.f.sep hl0
   rw[hes] at hsep
   obtain ⟨sp1,sp2,sp3,sp4,sp5⟩:=mem_lt hsep
   have hpreE:∀q∈pre.flatMap (fun e=>G.E e.2),q.1<key:=fun q hq=>by
    obtain ⟨e,he,hq⟩:=List.mem_flatMap.1 hq
    have:=sp1 e he q.1 (hkE e (hpe e he) q hq).1
    omega
   have hpostE:∀q∈post.flatMap (fun e=>G.E e.2),key<q.1:=fun q hq=>by
    obtain ⟨e,he,hq⟩:=List.mem_flatMap.1 hq
    have:=(hkE e (hqe e he) q hq).2
    have:=f5 e he
    omega
   have hEb:G.E b=pre.flatMap (fun e=>G.E e.2)++G.E e0.2++post.flatMap (fun e=>G.E e.2):=by rw[eE,hes];simp
   have hw0:lookE (G.E e0.2) key=some w:=by rw[hEb,lookE_app hpreE hpostE] at hw;exact hw
   unfold St.rt at hq
   rw[hT.touch] at hq
   rcases ht:S.touch b n k with _| ⟨c',S1⟩
   ·rw[ht] at hq;cases hq
   ·rw[ht,Option.map_some] at hq
    injection hq with hq
    injection hq with h1 h2
    subst h1 h2
    rw[←hK] at ht
    obtain ⟨o1,o2,o3,o4,o5,o6⟩:=h.open hn ht
    obtain ⟨kp,hrs,hkk⟩:=h.keep_open hn ht
    have hdn:dats (G.K b) n= []:=by unfold dats;rw[if_neg (fun e=>hl0 e.1)]
    have hkn:kids n=pre.map Prod.snd++e0.2 :: post.map Prod.snd:=by unfold kids;rw[if_neg hl0,hes,List.map_append,List.map_cons]
    rw[hdn] at o1
    have i1:=o1.perm (rs':=e0.2 :: (pre.map Prod.snd++post.map Prod.snd++rs)) (pd':=pd) (fun u=>by rw[hkn];simp only[List.count_append,List.count_cons];omega) (fun d=>by simp)
    have hm1':S1.nd (Zi Z c') e0.2=some m:=by rw[(hkk _ (kid_mem hl0 hee)).2];exact hm1
    have hce:e0.2≠c':=(hkk _ (kid_mem hl0 hee)).1
    have hze:Z e0.2=false:=(nd_count hm1).2.1
    have hld:S1.load e0.2=some m:=(nd_count hm1').2.2
    have hoff0:∀N:Nd,Off (Zi Z c') S1 (St.put { T with bl:=S1.bl,da:=S1.da } c' N):=fun N=>by
     refine ⟨rfl,rfl,hT.dk.trans o2.dk.symm,hT.sq.trans o2.sq.symm,fun u hu=>?_⟩
     obtain ⟨z1,z2⟩:=Zi_false hu
     rw[put_ne _ z2,o2.ch]
     exact hT.ch u z1
    unfold St.way at hwy
    rw[hget,(hoff0 n).load (by rw[Zi_ne hce];exact hze),hld] at hwy
    dsimp only at hwy
    unfold St.rt at hwy
    rw[(hoff0 n).touch] at hwy
    rcases ht2:S1.touch e0.2 m k with _| ⟨d,S2⟩
    ·rw[ht2] at hwy
     cases hwy
    ·rw[ht2,Option.map_some] at hwy
     dsimp only at hwy
     have hcd:c'≠d:=by
      have ht3:=ht2
      rw[←hm3] at ht3
      have:=(i1.open hm1' ht3).2.2.2.2.1
      rintro rfl
      rw[Zi_self] at this
      cases this
     generalize hN:({ n with es:=n.es.set (findN n.es key).toNat (if findN n.es key<0∧false=true then key else e0.1,d) }:Nd)=N at hwy
     have e:(St.put (St.put { T with bl:=S2.bl,da:=S2.da } c' n) d m).put c' N=(St.put { T with bl:=S2.bl,da:=S2.da } c' N).put d m:=by
      rw[put_comm _ hcd,put_put]
      exact (put_comm _ hcd _ _).symm
     change (match St.way k false key l ((St.put (St.put { T with bl:=S2.bl,da:=S2.da } c' n) d m).put c' N) d m with|none=>none|some (st,S2)=>some ((c',(findN n.es key).toNat) :: st,S2))=some (st,T2) at hwy
     rw[e] at hwy
     rcases hwq:St.way k false key l ((St.put { T with bl:=S2.bl,da:=S2.da } c' N).put d m) d m with _| ⟨st',T3⟩
     ·rw[hwq] at hwy
      cases hwy
     ·rw[hwq] at hwy
      injection hwy with hwy
      injection hwy with h1 h2
      subst h1 h2
      have hst0:=way_ne hwq
      have hrt:(St.put { T with bl:=S1.bl,da:=S1.da } c' N).rt e0.2 m k=some (d,(St.put { T with bl:=S2.bl,da:=S2.da } c' N).put d m):=by
       unfold St.rt
       rw[(hoff0 N).touch,ht2,Option.map_some]
       rfl
      obtain ⟨hih,hih2⟩:=ih S1 _ (Zi Z c') (pre.map Prod.snd++post.map Prod.snd++rs) pd G e0.2 m w i1 hm1' (by omega) hm3 hw0 (hoff0 N) d _ st' T3 hrt hwq
      have hwh:=rem_whole (key:=key) l S1 _ (Zi Z c') (pre.map Prod.snd++post.map Prod.snd++rs) pd G e0.2 m w i1 hm1' (by omega) hm3 hw0 (hoff0 N)
      have hio:=rem_ok (key:=key) l S1 (Zi Z c') (pre.map Prod.snd++post.map Prod.snd++rs) pd G e0.2 m w i1 hm1' (by omega) hm3 hw0
      obtain ⟨j,hhd⟩:=way_head hwq
      rw[leafOf_cons _ hst0,List.reverse_cons]
      refine ⟨dscOk_snoc d j _ _ _ hih (by rw[List.getLast?_reverse];exact hhd) (fun S4 hu=>?_),hih2⟩
      unfold St.wholeR at hwh
      rw[hrt] at hwh
      dsimp only at hwh
      rw[hwq] at hwh
      dsimp only at hwh
      rw[hu] at hwh
      rcases hiq:S1.rem k key l e0.2 m with _| ⟨d',es,S3⟩
      ·rw[hiq] at hwh
       cases hwh
      ·rw[hiq] at hwh hio
       dsimp only at hwh hio
       obtain ⟨T',m',f,q,f1,f2,f3,f4,f5⟩:=hwh
       injection q with q
       injection q with q1 q
       injection q with q2 q3
       subst q3
       obtain ⟨G2,hRO,hRC⟩:=hio
       have hkz:Keep S1 S3 (Zi Z c') (pre.map Prod.snd++post.map Prod.snd++rs) G G2:=by
        by_cases he:es= []
        ·exact (hRO he).keep
        ·exact (hRC he).keep
       refine ⟨hcd,?_,{ N with sq:=T.seq },?_,?_,?_⟩
       ·rw[f2.bl,(hkz.zk c' (Zi_self Z c')).1]
        omega
       ·rw[f3 c' (Zi_self Z c'),put_ch]
       ·rw[←hN]
        show _<(n.es.set _ _).length
        rw[List.length_set]
        exact hilt
       ·rw[←hN]
        show (n.es.set _ _).length≤8
        rw[List.length_set]
        have:=ho.ln
        omega
end
end
section
section
variable {S T:St} {Z:Nat→Bool} {rs pd:List Nat} {G:Gh} {b c r:Nat} {n:Nd} {k:Bool} {key:Int} {v:Nat}
theorem wholeR_eq {w:Nat} (h:Inv S Z (r :: rs) pd G) (hn:S.nd Z r=some n) (hK:G.K r=k) (hw:lookE (G.E r) key=some w):match S.rem k key n.lv r n with
  |none=>S.wholeR k key n.lv r n=none
  |some (c,es,S')=>S.wholeR k key n.lv r n=some (c,decide (es= []),S'):=by
 have h1:=rem_whole (key:=key) n.lv S S Z rs pd G r n w h hn rfl hK hw (Off.refl _ _)
 have h2:=rem_ok (key:=key) n.lv S Z rs pd G r n w h hn rfl hK hw
 rcases hq:S.rem k key n.lv r n with _| ⟨d,es,S'⟩
 ·rw[hq] at h1
  exact h1
 ·rw[hq] at h1 h2
  dsimp only at h1 h2 ⊢
  obtain ⟨T',m,f,q,f0,f1,f2,-⟩:=h1
  obtain ⟨G2,hRO,hRC⟩:=h2
  have hkz:Keep S S' Z rs G G2:=by
   by_cases he:es= []
   ·exact (hRO he).keep
   ·exact (hRC he).keep
  rw[q,f0,St.ext' f1.dk f1.bl f1.da f1.sq (fun u=>by
   rcases hz:Z u with _|_
   ·exact f1.ch u hz
   ·rw[f2 u hz,(hkz.zk u hz).2])]
theorem delete_dsc {w:Nat} (h:Inv S Z (r :: rs) pd G) (hn:S.nd Z r=some n) (hK:G.K r=k) (hw:lookE (G.E r) key=some w):S.delete k key r=match S.wayR k false key r n with
  |none=>none
  |some (st,S1)=>St.lop n.lv (St.dsc st.reverse (S1.leafRem key (leafOf st))).2 (headOf st):=by
 have h1:=wholeR_eq h hn hK hw
 unfold St.delete
 rw[(nd_count hn).2.2]
 dsimp only
 unfold St.wholeR at h1
 unfold St.wayR
 rcases hq:S.rt r n k with _| ⟨c,T1⟩
 ·rw[hq] at h1
  dsimp only at h1 ⊢
  rcases hr:S.rem k key n.lv r n with _| ⟨d,es,S'⟩
  ·rfl
  ·rw[hr] at h1
   cases h1
 ·rw[hq] at h1
  dsimp only at h1 ⊢
  rcases hwy:T1.way k false key n.lv c n with _| ⟨st,T2⟩
  ·rw[hwy] at h1
   rcases hr:S.rem k key n.lv r n with _| ⟨d,es,S'⟩
   ·rfl
   ·rw[hr] at h1
    cases h1
  ·rw[hwy] at h1
   obtain ⟨j,hj⟩:=way_head hwy
   have hh:headOf st=c:=by unfold headOf;rw[hj];rfl
   dsimp only at h1 ⊢
   rw[hh]
   rcases hr:S.rem k key n.lv r n with _| ⟨d,es,S'⟩
   ·rw[hr] at h1
    cases h1
   ·rw[hr] at h1
    dsimp only at h1 ⊢
    injection h1 with h1
    injection h1 with h2 h3
    rw[h3,h2]
theorem wayR_dscOk {w:Nat} (h:Inv S Z (r :: rs) pd G) (hn:S.nd Z r=some n) (hK:G.K r=k) (hw:lookE (G.E r) key=some w) {st:List (Nat × Nat)} {S1:St} (hwy:S.wayR k false key r n=some (st,S1)) :
  DscOk st.reverse (S1.leafRem key (leafOf st))∧st.length=n.lv+1∧∃m,S1.ch (leafOf st)=some m∧(findN m.es key).toNat<m.es.length∧0≤findN m.es key∧m.es.length≤7:=by
 unfold St.wayR at hwy
 rcases hq:S.rt r n k with _| ⟨c,T1⟩
 ·rw[hq] at hwy;cases hwy
 ·rw[hq] at hwy
  dsimp only at hwy
  obtain ⟨a1,a2⟩:=rem_dscOk n.lv S S Z rs pd G r n w h hn rfl hK hw (Off.refl _ _) c T1 st S1 hq hwy
  exact ⟨a1,way_len _ _ _ _ hwy,a2⟩
theorem delete_lopOk {w:Nat} (h:Inv S Z (r :: rs) pd G) (hn:S.nd Z r=some n) (hK:G.K r=k) (hr2:n.lv≠0→2≤n.es.length) (hb:rP G r n.lv+rQ G r n.lv<59) (hw:lookE (G.E r) key=some w) {es:List (Int × Nat)} {S1:St} (hq:S.rem k key n.lv r n=some (c,es,S1)):LopOk n.lv S1 c:=by
 have hh:=rem_top h hn hK hr2 hw
 rw[hq] at hh
 dsimp only at hh
 obtain ⟨G1,hC,hne⟩:=hh
 obtain ⟨m,m1,m2,m3,m4⟩:=hC.nc
 have hom:=hC.inv.nd c m m1
 have pP:rP G1 c n.lv≤rP G r n.lv:=by
  have h1:=hC.potT
  have h2:=hC.len
  unfold rP
  split
  ·omega
  ·have:4 ^ n.lv * (G1.L c - 2)≤4 ^ n.lv * (G.L r - 2):=Nat.mul_le_mul_left _ (by omega)
   omega
 have pQ:rQ G1 c n.lv≤rQ G r n.lv+1:=by
  have h1:=hC.potU
  have h2:=hC.len
  unfold rQ
  split
  ·omega
  ·have:4 ^ n.lv * (2 - G1.L c)≤4 ^ n.lv * (2 - G.L r)+4 ^ n.lv * (G.L r - G1.L c):=by
    rw[←Nat.mul_add]
    exact Nat.mul_le_mul_left _ (by omega)
   omega
 rcases hl:n.lv with _|l
 ·exact ⟨nd_lt m1,m,(nd_count m1).2.2,m2.trans hl⟩
 ·refine ⟨(nd_count m1).1,m,(nd_count m1).2.2,m2.trans hl,fun h1=>?_⟩
  have hml:m.lv≠0:=by omega
  obtain ⟨e,he⟩:=List.length_eq_one_iff.1 h1
  obtain ⟨a1,a2,a3,a4⟩:=hC.inv.lopped m1 hC.c1 hml he
  have hee:(m.es[0]?.getD (0,0)).2=e.2:=by rw[he];rfl
  rw[hee]
  obtain ⟨x,x1,x2,x3,x4⟩:=hom.f.kid hml e (by rw[he];exact List.mem_cons_self)
  have hec:e.2≠c:=fun q=>by
   rw[q,m1] at x1
   injection x1 with x1
   rw[x1] at x2
   omega
  have hx:=(a4 e.2 hec).trans x1
  have hox:=a1.nd e.2 x hx
  have hlc:G1.L c=1:=hom.l.trans h1
  have hUc:G1.U c=G1.Q e.2:=by rw[hom.w];unfold uOf;rw[if_neg hml,he];simp
  have hQe:G1.Q e.2=4 ^ x.lv * (4 - G1.L e.2)+G1.U e.2:=by rw[hox.q,qOf_u,hox.l,hox.w]
  have hxl:x.lv=l:=by omega
  rw[hxl] at hQe
  have hx2:x.lv≠0→2≤x.es.length:=fun hx0=>by
   rcases Nat.lt_or_ge x.es.length 2 with hs|hs
   ·exfalso
    have hxn:=hox.f.ne hx0
    have hx1:x.es.length=1:=by
     have:=List.length_pos_iff.2 hxn
     omega
    have hLe:G1.L e.2=1:=hox.l.trans hx1
    have g1:=hP_two (l:=l) (by omega)
    have g2:hP (l+1)≤rP G1 c n.lv:=by unfold rP;rw[hl];omega
    have g3:4 ^ (l+1)+3 * 4 ^ l≤rQ G1 c n.lv:=by
     unfold rQ
     rw[hl,if_neg (Nat.succ_ne_zero _),hlc,hUc,hQe,hLe]
     omega
    have g4:4 ^ (l+1)=4 * 4 ^ l:=by rw[Nat.pow_succ];omega
    have g5:4≤4 ^ l:=by
     obtain ⟨l',rfl⟩:=Nat.exists_eq_succ_of_ne_zero (show l≠0 by omega)
     rw[Nat.pow_succ]
     have:=Nat.pow_pos (n:=l') (show 0<4 by omega)
     omega
    omega
   ·exact hs
  refine ⟨nd_lt x1,?_⟩
  rcases l with _|l'
  ·exact ⟨nd_lt hx,x,(nd_count hx).2.2,hxl⟩
  ·exact ⟨(nd_count hx).1,x,(nd_count hx).2.2,hxl,fun h2=>by have:=hx2 (by omega);omega⟩
end
end
end Go.Proofs.YtplhdjdkobddnaaGreat
