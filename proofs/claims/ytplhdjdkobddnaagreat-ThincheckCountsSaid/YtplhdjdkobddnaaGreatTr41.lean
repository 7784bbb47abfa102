/- OkD OkE -/
import Derived.Test.YtplhdjdkobddnaaGreatTr40
set_option linter.unusedVariables false
set_option maxRecDepth 100000
set_option maxHeartbeats 40000000
namespace Go.Proofs.YtplhdjdkobddnaaGreat
section
open Go.RowKit
section
variable {S S':St} {Z:Nat→Bool} {rs pd:List Nat} {G G':Gh} {N N' r:Nat} {m m':Mt} {d:Dv} {L:List Dv} {Nt f:Nat} {P:SP} {ws:List Nat}
theorem delC_of {P:SP} {ws:List Nat} {k:Bool} {key t w:Nat} {n:Nd} (hI:Inv S Z (r :: rs) pd G) (hn:S.nd Z r=some n) (hK:G.K r=k) (hkr:key<16777216) (hr2:n.lv≠0→2≤n.es.length) (hpot:rP G r n.lv+rQ G r n.lv<59) (hw:lookE (G.E r) (key:Int)=some w) (hb1:rs.length+7 * S.bl.now.length+72≤60000) (hb2:pd.length+7 * S.bl.now.length+72≤60000)
  (hi:S.delete k (key:Int) r=some (t,S')):DelC P ws S k r key t S' w:=by
 intro F w0 hs
 refine (rdelete26_any w0 F P S ws hs Z rs pd G r k (key:Int) w hI n hn hK (by omega) hr2 hpot hw hb1 hb2).mono ?_
 rintro e w' ⟨q1,q2| ⟨t1,S1,q2,q3,q4⟩⟩
 ·rw[hi] at q2
  cases q2.1
 ·rw[hi] at q2
  cases q2
  exact ⟨q1,q3,q4⟩
theorem dropC_of {P:SP} {ws:List Nat} {k:Bool} {n:Nd} (hI:Inv S Z (r :: rs) pd G) (hn:S.nd Z r=some n) (hK:G.K r=k) (hi:St.drop k n.lv S r=some S'):DropC P ws S r k S':=by
 intro F w0 hs
 refine (rdrop26_any P ws Z pd G k n.lv F w0 S rs r n hs hI hn rfl hK).mono ?_
 rintro e w' ⟨q1,S1,q2,q3,q4⟩
 rw[hi] at q2
 cases q2
 exact ⟨q4,q1,q3⟩
theorem lookC_of {P:SP} {ws:List Nat} {n:Nd} {key:Nat} (hI:Inv S Z rs pd G) (hn:S.nd Z r=some n):LookC P ws S r key (lookE (G.E r) (key:Int)) (S.shr (key:Int) n.lv r n):=by
 intro F w0 hs
 exact rlookup26_any w0 F P S ws hs Z rs pd G hI r n hn (key:Int)
theorem delE_len {l:List (Int × Nat)} {key:Int} {w:Nat} (h:AscE l) (hw:lookE l key=some w):(delE l key).length+1=l.length:=by
 rcases lookE_split h key with ⟨q,_⟩| ⟨w',pre,post,q1,q2,q3,q4⟩
 ·rw[hw] at q;cases q
 ·subst q2
  rw[delE_at q3 q4]
  simp
  omega
theorem delE_mem {l:List (Int × Nat)} {key:Int} {e:Int × Nat} (h:e∈delE l key):e∈l:=(List.mem_filter.1 h).1
theorem unmap_ok (h:MtX m m.dv Nt N 6 G) {id b w:Nat} (hid:id≤65535) (hb16:b≤16777215) (h3:hasD m.dv id=true) (hw:lookE (G.E (dvAt m.dv id).rt) (b:Int)=some w) (hf16:16≤m.S.bl.free) (hN:N≤58) (hNt:Nt+1≤100) :
  ∃t1 t2 S1 S3 old2 had2 G',(dvAt m.dv id).tm<1048576∧(dvAt m.dv id).mp<16777216∧1≤(dvAt m.dv id).mp∧t1<1048576∧w<18446744073709551616∧(∀P,DelC P m.ws m.S true (dvAt m.dv id).rt b t1 S1 w)∧S1.da.decE (dOf w)=0∧
   (∀P,InsC P m.ws { S1 with da:=S1.da.dec (dOf w) } false m.tree id (Dv.mk id t1 (dvAt m.dv id).tm ((dvAt m.dv id).mp - 1)).val t2 S3 old2 had2)∧
   MtX ((m.unS { S1 with da:=S1.da.dec (dOf w) }).setD ⟨id,t1,(dvAt m.dv id).tm,(dvAt m.dv id).mp - 1⟩ t2 S3) (insF m.dv ⟨id,t1,(dvAt m.dv id).tm,(dvAt m.dv id).mp - 1⟩) (Nt+1) (N+1) 6 G'∧
   (LeafT m→m.dv.length≤6→LeafT ((m.unS { S1 with da:=S1.da.dec (dOf w) }).setD ⟨id,t1,(dvAt m.dv id).tm,(dvAt m.dv id).mp - 1⟩ t2 S3)):=by
 have hsr:=h.srt
 obtain ⟨hin,hoid⟩:=dvAt_in h h3
 have hrs:=roots_split h h3
 obtain ⟨o,ho⟩ :∃o,dvAt m.dv id=o:=⟨_,rfl⟩
 rw[ho] at hin hoid hrs hw ⊢
 have hok:=h.dv o hin
 obtain ⟨hasc,n,hn,hn2,hp,hlv⟩:=E_asc h hin
 have h4:=h.len4
 have hll:=h.ll
 have hpl:=h.pl
 have hnn:=h.nn
 have htl:=h.tl
 have hol:=oth_len m.dv id
 have hI:Inv m.S (zM m.data m.root) (o.rt :: m.tree :: (othD m.dv id).map Dv.rt) m.pe G:=h.inv.perm hrs (fun _=>rfl)
 have hi:=delete_ok (k:=true) hI hn hok.k hn2 (by omega) hw
 cases hq:m.S.delete true (b:Int) o.rt with
 |none=>
  rw[hq] at hi
  have hi2:m.S.bl.free<n.lv+1:=hi
  omega
 |some p=>
  obtain ⟨t1,S1⟩:=p
  rw[hq] at hi
  obtain ⟨G1,nt,hT,h5,h6,h7,h8⟩:=hi
  have hC:∀P,DelC P m.ws m.S true o.rt b t1 S1 w:=fun P=>delC_of hI hn hok.k (by omega) hn2 (by omega) hw (by rw[List.length_cons,List.length_map];omega) (by omega) hq
  have hk:=hT.keep
  have ht1:=nd_lt h5
  have hbn:=hk.bn
  have hlen:=delE_len hasc hw
  rw[hok.mp] at hlen
  have hmn:=hok.mn
  have hinv:=hT.inv
  have e1:dv true w++m.pe=dOf w :: m.pe:=rfl
  have hwv:w<17592186044416:=(hok.es _ (lookE_mem hw)).2.2
  have kx:Keep m.S { S1 with da:=S1.da.dec (dOf w) } (zM m.data m.root) (m.tree :: (othD m.dv id).map Dv.rt) G G1:=hk.da (Mp.setN_len _ _ _) rfl
  have hX:MtX (m.unS { S1 with da:=S1.da.dec (dOf w) }) (insF (m.unS { S1 with da:=S1.da.dec (dOf w) }).dv ⟨id,t1,o.tm,o.mp - 1⟩) Nt (N+1) 13 G1→∃t2 S3 old2 had2 G',(∀P,InsC P m.ws { S1 with da:=S1.da.dec (dOf w) } false m.tree id (Dv.mk id t1 o.tm (o.mp - 1)).val t2 S3 old2 had2)∧MtX ((m.unS { S1 with da:=S1.da.dec (dOf w) }).setD ⟨id,t1,o.tm,o.mp - 1⟩ t2 S3) (insF m.dv ⟨id,t1,o.tm,o.mp - 1⟩) (Nt+1) (N+1) 6 G'∧(LeafT (m.unS { S1 with da:=S1.da.dec (dOf w) })→m.dv.length≤6→LeafT ((m.unS { S1 with da:=S1.da.dec (dOf w) }).setD ⟨id,t1,o.tm,o.mp - 1⟩ t2 S3)):=fun q=>setD_ok q hNt
  obtain ⟨t2,S3,old2,had2,G',q1,q2,q3⟩:=hX (by
   refine ⟨(Inv.decs (l:=[dOf w]) hinv).perm (fun u=>?_) (fun _=>rfl),?_,h.rt.keep kx List.mem_cons_self (Nat.le_refl _),fun x hx=>?_,?_,?_,h.pl,Nat.le_succ_of_le h.tl,Nat.le_succ_of_le h.sl,kx.sq.trans h.ss,fun u hu=>?_,h.rl,kx.bn.trans h.bn,kx.dl.trans h.dn,h.d1,h.d2,h.c1,h.c2,h.ar,h.sz,h.wl,kx.dk.trans h.dk,h.w6,?_,h.nt,by omega⟩
   ·exact insF_roots hsr ⟨id,t1,o.tm,o.mp - 1⟩ m.tree u _ id rfl rfl
   ·show G1.K m.tree=false
    rw[(kx.gh m.tree List.mem_cons_self).2.2.2]
    exact h.kt
   ·rcases insF_mem (l:=m.dv) hsr hx with rfl| ⟨q,qn⟩
    ·refine ⟨hid,⟨nt,h5,h6,?_⟩,hT.kd,hok.tm,?_,?_,fun e he=>?_⟩
     ·show rP G1 t1 nt.lv+rQ G1 t1 nt.lv≤N+1
      omega
     ·show (G1.E t1).length=o.mp - 1
      rw[hT.con]
      omega
     ·show o.mp - 1≤N+1
      omega
     ·have he2:e∈G1.E t1:=he
      rw[hT.con] at he2
      exact hok.es e (delE_mem he2)
    ·exact (h.dv x q).keep kx (List.mem_cons_of_mem _ (List.mem_map_of_mem (List.mem_filter.2 ⟨q,by simpa using qn⟩))) (Nat.le_succ _) rfl rfl (Nat.le_refl _)
   ·show G1.E m.tree=dvE m.dv
    rw[(kx.gh m.tree List.mem_cons_self).1]
    exact h.et
   ·have:=insF_len (l:=m.dv) hsr ⟨id,t1,o.tm,o.mp - 1⟩
    show (insF m.dv _).length≤N+1
    omega
   ·have hz:zM m.data m.root u=true:=hu
    have:=kx.zk u hz
    have hh:=h.z1 u hz
    exact ⟨this.1.trans hh.1,this.2.trans hh.2⟩
   ·have:=hT.fr
    show 13≤S1.bl.free
    omega)
  refine ⟨t1,t2,S1,S3,old2,had2,G',by have:=hok.tm;omega,by omega,by omega,by omega,by omega,hC,?_,q1,q2,fun hlf h6=>q3 (leaf_keep (m:=m) h.rt kx List.mem_cons_self hlf) h6⟩
  have h1:=hinv.dt (dOf w)
  rw[e1,List.count_cons_self] at h1
  have h2:S1.da.count (dOf w)≠0:=by omega
  have h3:=Mp.lt_of_count h2
  unfold Mp.decE
  rw[if_neg (by omega),if_neg h2]
theorem dvE_look {l:List Dv} (h:SrtD l) {id:Nat} (hh:hasD l id=true):lookE (dvE l) (id:Int)=some (dvAt l id).val:=by
 obtain ⟨pre,post,e1,-,e2,e3,e4,-⟩:=dv_split h hh
 generalize hz:dvAt l id=o at *
 have e5:dvE l=dvE pre++ [((id:Int),o.val)]++dvE post:=by
  rw[e1]
  unfold dvE
  rw[List.map_append,List.map_cons,e2]
  simp
 rw[e5,lookE_app]
 ·simp[lookE]
 ·intro e he
  obtain ⟨x,hx,rfl⟩:=List.mem_map.1 he
  have:=e3 x hx
  show (x.id:Int)<_
  omega
 ·intro e he
  obtain ⟨x,hx,rfl⟩:=List.mem_map.1 he
  have:=e4 x hx
  show _<(x.id:Int)
  omega
theorem dvE_del (l:List Dv) (id:Nat):delE (dvE l) (id:Int)=dvE (othD l id):=by
 unfold delE dvE othD
 rw[List.filter_map]
 congr 1
 congr 1
 funext x
 simp
 omega
theorem delete27_ok (h:MtX m m.dv Nt N 6 G) {id:Nat} (hid:id≤65535) (hE:m.delE id=0) (hN:N≤100) (hNt:Nt≤58) :
  ∃S1 S2 t old G',(∀P,DropC P m.ws m.S (dvAt m.dv id).rt true S1)∧(∀P,DelC P m.ws S1 false m.tree id t S2 old)∧MtX (m.gone id t S2) (m.gone id t S2).dv (Nt+1) N 6 G'∧(LeafT m→LeafT (m.gone id t S2))∧(m.gone id t S2).dv=othD m.dv id:=by
 obtain ⟨h3,hf16⟩:=delE_ok hE
 have hsr:=h.srt
 obtain ⟨hin,hoid⟩:=dvAt_in h h3
 have hrs:=roots_split h h3
 obtain ⟨pre,post,e1,e2,-,-,-,e3⟩:=dv_split hsr h3
 have hgd:m.dv.take ((fnd m.dv id).getD 0)++m.dv.drop ((fnd m.dv id).getD 0+1)=othD m.dv id:=by
  rw[e2,e3]
  generalize dvAt m.dv id=o at e1
  rw[e1]
  have hl:pre.length+1=(pre++ [o]).length:=by simp
  rw[List.take_left,hl,show pre++o :: post=(pre++ [o])++post by simp,List.drop_left]
 have hlk:=dvE_look hsr h3
 obtain ⟨o,ho⟩ :∃o,dvAt m.dv id=o:=⟨_,rfl⟩
 rw[ho] at hin hoid hrs hlk ⊢
 have hok:=h.dv o hin
 obtain ⟨hasc,n,hn,hn2,hp,hlv⟩:=E_asc h hin
 have h4:=h.len4
 have hll:=h.ll
 have hpl:=h.pl
 have hol:=oth_len m.dv id
 have hI:Inv m.S (zM m.data m.root) (o.rt :: m.tree :: (othD m.dv id).map Dv.rt) m.pe G:=h.inv.perm hrs (fun _=>rfl)
 obtain ⟨S1,d1,d2,d3,d4⟩:=drop_ok n.lv m.S o.rt n _ hI hn rfl hok.k
 obtain ⟨nt,hnt,ht2,htp⟩:=(h.rt.keep d3 List.mem_cons_self (Nat.le_refl _)).ex
 have hlvt:=rP_lv htp h.nt
 have hlk1:lookE (G.E m.tree) (id:Int)=some o.val:=by rw[h.et];exact hlk
 have hbn:=d3.bn
 have hi:=delete_ok (k:=false) d2 hnt h.kt ht2 (by omega) hlk1
 cases hq:S1.delete false (id:Int) m.tree with
 |none=>
  rw[hq] at hi
  have hi2:S1.bl.free<nt.lv+1:=hi
  omega
 |some p=>
  obtain ⟨t,S2⟩:=p
  rw[hq] at hi
  obtain ⟨G1,n2,hT,h5,h6,h7,h8⟩:=hi
  have hk:=hT.keep
  have d5:Keep m.S S1 (zM m.data m.root) ((othD m.dv id).map Dv.rt) G G:={ d3 with nd:=fun r hr=>d3.nd r (List.mem_cons_of_mem _ hr),gh:=fun r hr=>d3.gh r (List.mem_cons_of_mem _ hr),gh2:=fun r hr=>d3.gh2 r (List.mem_cons_of_mem _ hr) }
  have kx:=d5.trans hk
  refine ⟨S1,S2,t,o.val,G1,fun P=>dropC_of hI hn hok.k d1,fun P=>delC_of d2 hnt h.kt (by omega) ht2 (by omega) hlk1 (by rw[List.length_map,d3.bn];omega) (by rw[d3.bn];omega) hq,?_⟩
  have hg:(m.gone id t S2).dv=othD m.dv id:=hgd
  refine ⟨?_,fun hlf=>?_,hg⟩
  rotate_left
  ·obtain ⟨n1,g1,g2⟩:=leaf_keep h.rt d3 List.mem_cons_self hlf
   exact delete_leaf g1 g2 hq
  rw[hg]
  refine ⟨hT.inv,hT.kd,⟨n2,h5,h6,by show rP G1 t n2.lv+rQ G1 t n2.lv≤Nt+1;omega⟩,fun x hx=>?_,?_,by omega,h.pl,h.tl,h.sl,kx.sq.trans h.ss,fun u hu=>?_,h.rl,kx.bn.trans h.bn,kx.dl.trans h.dn,h.d1,h.d2,h.c1,h.c2,h.ar,h.sz,h.wl,kx.dk.trans h.dk,h.w6,?_,by omega,h.nn⟩
  ·have q:=(List.mem_filter.1 hx).1
   exact (h.dv x q).keep kx (List.mem_map_of_mem hx) (Nat.le_refl _) rfl rfl (Nat.le_refl _)
  ·show G1.E t=dvE (m.gone id t S2).dv
   rw[hT.con,h.et,hg,dvE_del]
  ·have hz:zM m.data m.root u=true:=hu
   have:=kx.zk u hz
   have hh:=h.z1 u hz
   exact ⟨this.1.trans hh.1,this.2.trans hh.2⟩
  ·have:=hT.fr
   show 6≤S2.bl.free
   omega
end
end
section
open Go.RowKit
structure Cmd (m:Mt):Prop where
 pe:m.pe= []
 ch:∀u,m.S.ch u=none
 w0:m.ws[0]?.getD 0=cwW m.root m.seq
 rb:blkW m.ws m.root=rtW m.root m.seq m.tree m.time m.data m.chunk m.area (shortC (extendC 0 (arW m.S.da.now)))
 ar:arOf m.ws m.data m.area=arW m.S.da.now
 sq:∀u n,m.S.nd (zM m.data m.root) u=some n→n.sq≤m.seq
theorem blk_at (ws:List Nat) (b j:Nat) (hj:j<16):(blkW ws b)[j]? =ws[b * 16+j]?:=by
 unfold blkW
 rw[List.getElem?_take,if_pos hj,List.getElem?_drop]
theorem blk_ext {ws ws':List Nat} {b:Nat} (h:∀j,j<16→ws'[b * 16+j]? =ws[b * 16+j]?):blkW ws' b=blkW ws b:=by
 apply List.ext_getElem?
 intro j
 by_cases hj:j<16
 ·rw[blk_at _ _ _ hj,blk_at _ _ _ hj,h j hj]
 ·unfold blkW
  rw[List.getElem?_take,if_neg hj,List.getElem?_take,if_neg hj]
theorem blk_cp (ws src:List Nat) (b:Nat) (hb:(b+1) * 16≤ws.length) (hs:src.length=16):blkW (cpL ws (b * 16) src 0 16) b=src:=by
 apply List.ext_getElem?
 intro j
 by_cases hj:j<16
 ·rw[blk_at _ _ _ hj,cpL_at,if_pos ⟨by omega,by omega,by omega⟩,show 0+(b * 16+j - b * 16)=j by omega,List.getElem?_eq_getElem (by omega)]
  rfl
 ·unfold blkW
  rw[List.getElem?_take,if_neg hj,List.getElem?_eq_none (by omega)]
theorem blk_cp_out (ws src:List Nat) (p n u:Nat) (h:u * 16+16≤p∨p+n≤u * 16):blkW (cpL ws p src 0 n) u=blkW ws u:=
 blk_ext (fun j hj=>by rw[cpL_at,if_neg (by omega)])
theorem blk_set0 (ws:List Nat) (v u:Nat) (hu:1≤u):blkW (ws.set 0 v) u=blkW ws u:=
 blk_ext (fun j hj=>by rw[List.getElem?_set,if_neg (by omega)])
theorem encN_len (lv sq:Int) (l:List (Int × Nat)) (b:Int):(encN lv sq l b).length=16:=by
 unfold encN
 refine sealN_len _ ?_
 unfold encP
 rw[List.length_set,encTo_length]
 exact Nat.le_refl _
theorem wrts_cons (S:St) (ws l:List Nat) (b:Nat):S.wrts ws (b :: l)=S.wrts (S.wrt ws b) l:=rfl
theorem wrt_len (S:St) (ws:List Nat) (b:Nat):(S.wrt ws b).length=ws.length:=by
 unfold St.wrt
 split
 ·exact wput_len _ _ _
 ·rfl
theorem blk_wrts (S:St):∀(l ws:List Nat),(∀b∈l,(b+1) * 16≤ws.length)→(∀u,u∉l→blkW (S.wrts ws l) u=blkW ws u)∧∀u n,u∈l→S.ch u=some n→blkW (S.wrts ws l) u=encN (n.lv:Int) (n.sq:Int) n.es (u:Int):=by
 intro l
 induction l with
 |nil=>intro ws _;exact ⟨fun _ _=>rfl,fun u n h=>by cases h⟩
 |cons b l ih=>
  intro ws hb
  obtain ⟨i1,i2⟩:=ih (S.wrt ws b) (fun x hx=>by rw[wrt_len];exact hb x (List.mem_cons_of_mem _ hx))
  refine ⟨fun u hu=>?_,fun u n hu hn=>?_⟩
  ·rw[wrts_cons,i1 u (fun q=>hu (List.mem_cons_of_mem _ q))]
   unfold St.wrt
   have hne:u≠b:=fun q=>hu (by rw[q];exact List.mem_cons_self)
   split
   ·exact blk_cp_out _ _ _ _ _ (by omega)
   ·rfl
  ·rw[wrts_cons]
   by_cases q:u∈l
   ·exact i2 u n q hn
   ·rw[i1 u q]
    have e:u=b:=by
     rcases List.mem_cons.1 hu with e|e
     ·exact e
     ·exact absurd e q
    subst e
    unfold St.wrt
    rw[hn]
    exact blk_cp _ _ _ (hb u List.mem_cons_self) (encN_len _ _ _ _)
theorem wrts_low (S:St) (p:Nat):∀(l ws:List Nat),(∀b∈l,p≤b * 16)→∀j,j<p→(S.wrts ws l)[j]? =ws[j]?:=by
 intro l
 induction l with
 |nil=>intro ws _ j _;rfl
 |cons b l ih=>
  intro ws hb j hj
  rw[wrts_cons,ih _ (fun x hx=>hb x (List.mem_cons_of_mem _ hx)) j hj]
  unfold St.wrt
  have:=hb b List.mem_cons_self
  split
  ·unfold wput
   rw[cpL_at,if_neg (by omega)]
  ·rfl
theorem arOf_ext {ws ws':List Nat} {data area:Nat} (h:∀j,arAt data area≤j→j<arAt data area+arB data * 16→ws'[j]? =ws[j]?):arOf ws' data area=arOf ws data area:=by
 apply List.ext_getElem?
 intro j
 unfold arOf
 rw[List.getElem?_take,List.getElem?_take]
 by_cases hj:j<arB data * 16
 ·rw[if_pos hj,if_pos hj,List.getElem?_drop,List.getElem?_drop,h _ (by omega) (by omega)]
 ·rw[if_neg hj,if_neg hj]
theorem arOf_cp (ws src:List Nat) (data area:Nat) (hs:src.length=arB data * 16) (h:arAt data area+arB data * 16≤ws.length):arOf (cpL ws (arAt data area) src 0 (arB data * 16)) data area=src:=by
 apply List.ext_getElem?
 intro j
 unfold arOf
 rw[List.getElem?_take]
 by_cases hj:j<arB data * 16
 ·rw[if_pos hj,List.getElem?_drop,cpL_at,if_pos ⟨by omega,by omega,by omega⟩,show 0+(arAt data area+j - arAt data area)=j by omega,List.getElem?_eq_getElem (by omega)]
  rfl
 ·rw[if_neg hj,List.getElem?_eq_none (by omega)]
theorem ascF_of:∀(l:List (Int × Nat)) (last:Int),AscE l→(∀e∈l,last<e.1∧e.1≤16777215)→ascF last l=true:=by
 intro l
 induction l with
 |nil=>intro _ _ _;rfl
 |cons p r ih=>
  intro last ha hb
  have ha2:=List.pairwise_cons.1 ha
  have h1:=hb p List.mem_cons_self
  rw[ascF,ih p.1 ha2.2 (fun e he=>⟨ha2.1 e he,(hb e (List.mem_cons_of_mem _ he)).2⟩)]
  simp[h1]
section
variable {S S':St} {Z Z':Nat→Bool} {rs pd:List Nat} {G G':Gh} {N N' r:Nat} {m m':Mt} {d:Dv} {L:List Dv} {Nt f nb:Nat}
theorem zM_zi (data root nb:Nat):Zi (zM data root) nb=Zi (zM data nb) root:=by
 funext u
 unfold Zi zM
 by_cases h1:u<2 * arB data+1 <;> by_cases h2:u=root <;> by_cases h3:u=nb <;> simp[h1,h2,h3]
theorem Inv.cong2 (h:Inv S Z rs pd G) (hb:∀u,S'.bl.count u=S.bl.count u) (hn:S'.bl.now.length=S.bl.now.length) (ho:S'.bl.old.length=S'.bl.now.length) (hd:∀d,S'.da.count d=S.da.count d) (hs:S.seq≤S'.seq) (hl:∀u,S.bl.count u≠0→Z u=false→S'.load u=S.load u):Inv S' Z rs pd G∧∀u,S'.nd Z u=S.nd Z u:=by
 have nn:∀u,S'.nd Z u=S.nd Z u:=fun u=>by
  unfold St.nd
  rw[hb]
  by_cases q:S.bl.count u=0∨Z u=true
  ·rw[if_pos q,if_pos q]
  ·rw[if_neg q,if_neg q]
   refine hl u (fun e=>q (.inl e)) ?_
   cases hz:Z u
   ·rfl
   ·exact absurd (.inr hz) q
 have hr:∀u,S'.refs Z u=S.refs Z u:=fun u=>by
  unfold St.refs
  rw[hn]
  exact sumR_congr _ (fun w _=>by rw[nn])
 have hdr:∀d,S'.drefs Z G d=S.drefs Z G d:=fun d=>by
  unfold St.drefs
  rw[hn]
  exact sumR_congr _ (fun w _=>by rw[nn])
 refine ⟨⟨ho,fun u h1 h2=>?_,fun u n hu=>?_,fun u hu=>?_,fun u hu=>?_,fun u hu=>?_,fun d=>?_⟩,nn⟩
 ·rw[hb] at h1
  rw[hl u h1 h2]
  exact h.ld u h1 h2
 ·rw[nn] at hu
  have:=h.nd u n hu
  have e:S'.nd Z=S.nd Z:=funext nn
  rw[e]
  exact { this with sq:=Nat.le_trans this.sq hs }
 ·rw[hb,hr];exact h.ct u hu
 ·rw[hr];exact h.zz u hu
 ·rw[hb];exact h.zc u hu
 ·rw[hd,hdr];exact h.dt d
theorem RtOk.cong (h:RtOk S Z G N r) (hn:∀u,S'.nd Z' u=S.nd Z u):RtOk S' Z' G N r:=by
 obtain ⟨n,h1,h2,h3⟩:=h.ex
 exact ⟨n,by rw[hn];exact h1,h2,h3⟩
theorem DvOk.cong (h:DvOk m G N d) (hn:∀u,m'.S.nd (zM m'.data m'.root) u=m.S.nd (zM m.data m.root) u) (h1:m'.data=m.data) (h2:m'.time=m.time) (hN:N≤N'):DvOk m' G N' d:=by
 have q:=h.rt.cong (S':=m'.S) (Z':=zM m'.data m'.root) hn
 obtain ⟨n,q1,q2,q3⟩:=q.ex
 refine ⟨h.id,⟨n,q1,q2,by omega⟩,h.k,by rw[h2];exact h.tm,h.mp,Nat.le_trans h.mn hN,fun e he=>?_⟩
 rw[h1,h2]
 exact h.es e he
theorem countP_more {p q:Nat→Bool} {r:Nat} (h1:∀u,p u=true→q u=true) (h2:p r=false) (h3:q r=true):∀n,r<n→(List.range n).countP p+1≤(List.range n).countP q:=by
 have hle:∀n,(List.range n).countP p≤(List.range n).countP q:=fun n=>List.countP_mono_left (fun u _ h=>h1 u h)
 intro n
 induction n with
 |zero=>intro h;omega
 |succ n ih=>
  intro h
  rw[List.range_succ,List.countP_append,List.countP_append,List.countP_singleton,List.countP_singleton]
  by_cases e:r=n
  ·subst e
   rw[h2,h3]
   have:=hle r
   simp
   exact this
  ·have:=ih (by omega)
   by_cases hp:p n=true
   ·rw[hp,h1 n hp];simp;exact this
   ·have hp2:p n=false:=by simpa using hp
    rw[hp2]
    split
    ·rename_i q1;exact absurd q1 (by simp)
    ·omega
theorem MtX.zfirst (h:MtX m L Nt N f G) {u:Nat} (hu:u<2 * arB m.data+1):zM m.data m.root u=true:=by
 unfold zM
 rw[decide_eq_true_iff]
 exact .inl hu
theorem zM_no {data root u:Nat} (h:zM data root u=false):2 * arB data+1≤u∧u≠root:=by
 unfold zM at h
 rw[decide_eq_false_iff_not] at h
 omega
theorem MtX.ch_ok (h:MtX m L Nt N f G) {u:Nat} {n:Nd} (hc:m.S.ch u=some n) (hu:m.S.bl.count u≠0):zM m.data m.root u=false∧m.S.nd (zM m.data m.root) u=some n∧validN (n.lv:Int) (n.sq:Int) n.es=0:=by
 have hz:zM m.data m.root u=false:=by
  cases hz:zM m.data m.root u
  ·rfl
  ·have:=(h.z1 u hz).2
   rw[hc] at this
   cases this
 have hn:m.S.nd (zM m.data m.root) u=some n:=nd_of hu hz (by unfold St.load;rw[hc])
 have ho:=h.inv.nd u n hn
 refine ⟨hz,hn,(valid_iff _ _ _).2 ⟨by omega,by have:=ho.f.lv;omega,by omega,?_,ho.ln,ascF_of _ _ ho.f.asc (fun e he=>by have:=ho.f.rng e he;omega)⟩⟩
 have h1:=ho.sq
 have h2:=h.ss
 have h3:=h.sl
 have h4:=h.nn
 omega
theorem MtX.list_ge (h:MtX m L Nt N f G) {b:Nat} (hb:b∈m.S.listB):2 * arB m.data+1≤b∧b≠m.root∧(b+1) * 16≤m.ws.length∧m.S.bl.count b≠0:=by
 obtain ⟨q1,q2,n,q3⟩:=listB_mem hb
 have:=zM_no (h.ch_ok q3 q2).1
 rw[h.bn] at q1
 unfold blN at q1
 exact ⟨this.1,this.2,by omega,q2⟩
theorem comm_words (h:MtX m L Nt N f G) (hp:m.S.bl.pick=some nb) :
  2 * arB m.data+1≤nb∧nb≠m.root∧(m.w4 nb).length=m.ws.length∧(m.w4 nb)[0]?.getD 0=cwW nb (m.seq+1)∧blkW (m.w4 nb) nb=rtW nb (m.seq+1) m.tree m.time m.data m.chunk (1 - m.area) (shortC (extendC 0 (arW m.S.da.now)))∧arOf (m.w4 nb) m.data (1 - m.area)=arW m.S.da.now∧
   (∀u,2 * arB m.data+1≤u→u≠nb→u∉m.S.listB→blkW (m.w4 nb) u=blkW m.ws u)∧∀u n,u∈m.S.listB→m.S.ch u=some n→blkW (m.w4 nb) u=encN (n.lv:Int) (n.sq:Int) n.es (u:Int):=by
 obtain ⟨p1,p2,p3⟩:=Mp.pick_some hp
 have hr1:zM m.data m.root m.root=true:=by unfold zM;rw[decide_eq_true_iff];exact .inr rfl
 have hnr:nb≠m.root:=fun e=>by
  have:=(h.z1 _ hr1).1
  rw[←e] at this
  omega
 have hn1:2 * arB m.data+1≤nb:=by
  rcases Nat.lt_or_ge nb (2 * arB m.data+1) with q|q
  ·have:=(h.z1 nb (h.zfirst q)).1
   omega
  ·exact q
 rw[h.bn] at p1
 have hnl:(nb+1) * 16≤m.ws.length:=by unfold blN at p1;omega
 have hn4:nb<4096:=by unfold blN at p1;omega
 have hsz:=h.sz
 have har:=h.ar
 have l1:m.w1.length=m.ws.length:=cpL_length _ _ _ _ _
 have l2:m.w2.length=m.ws.length:=by unfold Mt.w2;rw[wrts_len,l1]
 have l3:(m.w3 nb).length=m.ws.length:=by unfold Mt.w3;rw[cpL_length,l2]
 have l4:(m.w4 nb).length=m.ws.length:=by unfold Mt.w4;rw[List.length_set,l3]
 have hat:arAt m.data (1 - m.area)+arB m.data * 16≤(2 * arB m.data+1) * 16∧16≤arAt m.data (1 - m.area):=by
  unfold arAt
  have:1 - m.area=0∨1 - m.area=1:=by omega
  rcases this with q|q <;> rw[q] <;> omega
 obtain ⟨b1,b2⟩:=blk_wrts m.S m.S.listB m.w1 (fun b hb=>by rw[l1];exact (h.list_ge hb).2.2.1)
 have hrl:(rtW nb (m.seq+1) m.tree m.time m.data m.chunk (1 - m.area) (shortC (extendC 0 (arW m.S.da.now)))).length=16:=(rt_facts _ _ _ _ _ _ _ _ hn4).1
 have hlow:∀j,j<(2 * arB m.data+1) * 16→j≠0→(m.w4 nb)[j]? =m.w1[j]?:=fun j hj h0=>by
  unfold Mt.w4
  rw[List.getElem?_set,if_neg (by omega)]
  unfold Mt.w3
  rw[cpL_at,if_neg (by omega)]
  exact wrts_low m.S ((2 * arB m.data+1) * 16) _ _ (fun b hb=>by have:=(h.list_ge hb).1;omega) j hj
 refine ⟨hn1,hnr,l4,?_,?_,?_,fun u hu1 hu2 hu3=>?_,fun u n hu hn=>?_⟩
 ·unfold Mt.w4
  rw[List.getElem?_set,if_pos rfl,if_pos (by rw[l3];omega),Option.getD_some]
 ·unfold Mt.w4
  rw[blk_set0 _ _ _ (by omega)]
  unfold Mt.w3
  exact blk_cp _ _ _ (by rw[l2];exact hnl) hrl
 ·rw[arOf_ext (ws:=m.w1) (fun j h1 h2=>hlow j (by omega) (by omega))]
  unfold Mt.w1
  exact arOf_cp _ _ _ _ (by rw[arW_len,h.dn]) (by omega)
 ·unfold Mt.w4
  rw[blk_set0 _ _ _ (by omega)]
  unfold Mt.w3
  rw[blk_cp_out _ _ _ _ _ (by omega)]
  unfold Mt.w2
  rw[b1 u hu3]
  unfold Mt.w1
  exact blk_cp_out _ _ _ _ _ (by omega)
 ·have hg:=h.list_ge hu
  have hune:u≠nb:=fun e=>by rw[e] at hg;exact hg.2.2.2 p2
  unfold Mt.w4
  rw[blk_set0 _ _ _ (by omega)]
  unfold Mt.w3
  rw[blk_cp_out _ _ _ _ _ (by omega)]
  exact b2 u n hu hn
theorem comm_load (m:Mt) (nb u:Nat) (w:List Nat):(m.commW nb w).S.load u=dkW w u:=rfl
theorem comm_okW (h:MtX m m.dv N N 6 G) (hpe:m.pe= []) (hp:m.S.bl.pick=some nb) (he:∀u n,m.S.ch u=some n→E64 n.es) {w:List Nat} (hw:W64 w) (hN:N+1≤100)
  (c1:2 * arB m.data+1≤nb) (c2:nb≠m.root) (c3:w.length=m.ws.length) (c4:w[0]?.getD 0=cwW nb (m.seq+1)) (c5:blkW w nb=rtW nb (m.seq+1) m.tree m.time m.data m.chunk (1 - m.area) (shortC (extendC 0 (arW m.S.da.now)))) (c6:arOf w m.data (1 - m.area)=arW m.S.da.now)
  (c7:∀u,2 * arB m.data+1≤u→u≠nb→u∉m.S.listB→blkW w u=blkW m.ws u) (c8:∀u n,u∈m.S.listB→m.S.ch u=some n→blkW w u=encN (n.lv:Int) (n.sq:Int) n.es (u:Int)):MtX (m.commW nb w) (m.commW nb w).dv N (N+1) 6 G∧Cmd (m.commW nb w)∧∀u,(m.commW nb w).S.nd (zM m.data nb) u=m.S.nd (zM m.data m.root) u:=by
 obtain ⟨p1,p2,p3⟩:=Mp.pick_some hp
 have hz1:=h.z1
 have hr1:zM m.data m.root m.root=true:=by unfold zM;rw[decide_eq_true_iff];exact .inr rfl
 obtain ⟨i1,i2,i3,i4,i5,i6,i7⟩:=h.inv.alloc hp
 rw[zM_zi] at i1
 have hzr:zM m.data nb m.root=false:=by
  unfold zM
  rw[decide_eq_false_iff_not]
  have:=h.rl
  omega
 have hcs:∀u,(m.S.bl.setN nb 1).count u=if u=nb then 1 else m.S.bl.count u:=Mp.count_setN p1
 have hc1:(m.S.bl.setN nb 1).count m.root=1:=by rw[hcs,if_neg (fun e=>c2 e.symm)];exact (hz1 _ hr1).1
 obtain ⟨j1,j2,j3,j4⟩:=i1.give hzr hc1
 have hrl:m.root<(m.S.bl.setN nb 1).now.length:=Mp.lt_of_count (by omega)
 have hcd:∀u,((m.S.bl.setN nb 1).dec m.root).count u=(m.S.bl.setN nb 1).count u - if u=m.root then 1 else 0:=Mp.count_dec hrl
 have hlen:((m.S.bl.setN nb 1).dec m.root).now.length=m.S.bl.now.length:=(Mp.setN_len _ _ _).trans (Mp.setN_len _ _ _)
 have hload:∀u,((m.S.bl.setN nb 1).dec m.root).count u≠0→zM m.data nb u=false→(m.commW nb w).S.load u=m.S.load u:=by
  intro u h1 h2
  have h3:=zM_no h2
  have hur:u≠m.root:=fun e=>by
   apply h1
   rw[hcd,e,if_pos rfl,hc1]
  have hcu:m.S.bl.count u≠0:=by
   rw[hcd,if_neg hur,hcs,if_neg h3.2] at h1
   exact h1
  have hlt:=Mp.lt_of_count hcu
  have hul:(u+1) * 16≤m.ws.length:=by have:=h.bn;unfold blN at this;omega
  have hu4:u<4096:=by have:=h.len4;omega
  rw[comm_load]
  cases hch:m.S.ch u with
  |some n=>
   obtain ⟨v1,v2,v3⟩:=h.ch_ok hch hcu
   have hin:u∈m.S.listB:=by
    unfold St.listB St.listTo
    refine List.mem_filter.2 ⟨List.mem_range.2 hlt,?_⟩
    unfold St.inList
    rw[hch]
    simp[hcu]
   have hb:=c8 u n hin hch
   obtain ⟨d1,d2,d3,d4⟩:=decode_enc (n.lv:Int) (n.sq:Int) n.es (u:Int) (he u n hch) v3 (by omega) (by omega)
   unfold dkW
   rw[c3,hb,if_pos ⟨hul,d1⟩]
   unfold nodeOf
   rw[d2,d3,d4]
   unfold St.load
   rw[hch]
   rfl
  |none=>
   have hin:u∉m.S.listB:=fun q=>by
    obtain ⟨_,_,n,q3⟩:=listB_mem q
    rw[hch] at q3
    cases q3
   unfold St.load
   rw[hch,h.dk]
   unfold dkW
   rw[c3,c7 u h3.1 h3.2 hin]
 obtain ⟨k1,k2⟩:=j1.cong2 (S':=(m.commW nb w).S) (fun _=>rfl) rfl rfl (fun _=>rfl) (by show m.S.seq≤m.seq+2;have:=h.ss;omega) hload
 have hnd:∀u,(m.commW nb w).S.nd (zM (m.commW nb w).data (m.commW nb w).root) u=m.S.nd (zM m.data m.root) u:=fun u=>by
  show (m.commW nb w).S.nd (zM m.data nb) u=_
  rw[k2,j4,←zM_zi]
  exact i7 u
 have hpe2:(m.commW nb w).pe= []:=hpe
 refine ⟨⟨k1,h.kt,h.rt.cong hnd,fun x hx=>(h.dv x hx).cong hnd rfl rfl (Nat.le_succ _),h.et,Nat.le_succ_of_le h.ll,by rw[hpe2];exact Nat.zero_le _,Nat.le_succ_of_le h.tl,Nat.succ_le_succ h.sl,rfl,fun u hu=>?_,c1,?_,h.dn,h.d1,h.d2,h.c1,h.c2,?_,?_,?_,rfl,hw,?_,h.nt,hN⟩,⟨hpe,fun _=>rfl,c4,c5,c6,fun u n hn=>by
  have hq:=(h.inv.nd u n ((hnd u).symm.trans hn)).sq
  rw[h.ss] at hq
  exact hq⟩,hnd⟩
 ·refine ⟨?_,rfl⟩
  show ((m.S.bl.setN nb 1).dec m.root).count u=1
  have hu2:zM m.data nb u=true:=hu
  unfold zM at hu2
  rw[decide_eq_true_iff] at hu2
  have:=h.rl
  rcases hu2 with q|q
  ·rw[hcd,if_neg (by omega),hcs,if_neg (by omega)]
   exact (hz1 u (h.zfirst q)).1
  ·rw[hcd,if_neg (by omega),hcs,if_pos q]
 ·show ((m.S.bl.setN nb 1).dec m.root).now.length=blN (w).length
  rw[hlen,c3]
  exact h.bn
 ·show 1 - m.area≤1
  omega
 ·show _≤(w).length
  rw[c3]
  exact h.sz
 ·show (w).length≤_
  rw[c3]
  exact h.wl
 ·have f1:=count_free hp
  have f2:=h.fr
  show 6≤Mp.free ⟨((m.S.bl.setN nb 1).dec m.root).now,((m.S.bl.setN nb 1).dec m.root).now⟩
  have key:=countP_more (p:=(m.S.bl.setN nb 1).isFree) (q:=Mp.isFree ⟨((m.S.bl.setN nb 1).dec m.root).now,((m.S.bl.setN nb 1).dec m.root).now⟩) (r:=m.root) (fun u hu=>?_) ?_ ?_ ((m.S.bl.setN nb 1).now.length) hrl
  ·unfold Mp.free at f1 f2 ⊢
   rw[show (Mp.mk ((m.S.bl.setN nb 1).dec m.root).now ((m.S.bl.setN nb 1).dec m.root).now).now.length=(m.S.bl.setN nb 1).now.length from Mp.setN_len _ _ _]
   omega
  ·have hu2:=(isFree_iff u).1 hu
   have hur:u≠m.root:=fun e=>by rw[e] at hu2;omega
   have:((m.S.bl.setN nb 1).dec m.root).count u=0:=by rw[hcd,if_neg hur];omega
   exact (isFree_iff u).2 ⟨this,this⟩
  ·exact isFree_no (fun q=>by omega)
  ·have:((m.S.bl.setN nb 1).dec m.root).count m.root=0:=by rw[hcd,if_pos rfl];omega
   exact (isFree_iff _).2 ⟨this,this⟩
theorem comm_ok (h:MtX m m.dv N N 6 G) (hpe:m.pe= []) (hp:m.S.bl.pick=some nb) (he:∀u n,m.S.ch u=some n→E64 n.es) (hw:W64 (m.w4 nb)) (hN:N+1≤100):MtX (m.comm nb) (m.comm nb).dv N (N+1) 6 G∧Cmd (m.comm nb)∧∀u,(m.comm nb).S.nd (zM m.data nb) u=m.S.nd (zM m.data m.root) u:=by
 obtain ⟨c1,c2,c3,c4,c5,c6,c7,c8⟩:=comm_words h hp
 exact comm_okW h hpe hp he hw hN c1 c2 c3 c4 c5 c6 c7 c8
theorem rel_ok (h:MtX m m.dv N N 6 G) (hd:m.done=true):∀k,k≤m.pe.length→MtX (m.rel k) (m.rel k).dv N N 6 G
 |0,_=>h
 |k+1,hk=>by
  have ih:=rel_ok h hd k (by omega)
  rw[←rel_succ m hd (show k<m.pe.length by omega)]
  refine freed_ok ih ?_
  show m.pe[k]∈m.pe.drop k
  rw[List.drop_eq_getElem_cons (show k<m.pe.length by omega)]
  exact List.mem_cons_self
theorem comp_ok (h:MtX m m.dv N N 6 G) (hd:m.done=true):∃nb,ComP m nb:=by
 cases hp:m.S.bl.pick with
 |none=>
  have:=Mp.pick_none hp
  have:=h.fr
  omega
 |some nb=>
  obtain ⟨p1,p2,p3⟩:=Mp.pick_some hp
  have hr1:zM m.data m.root m.root=true:=by unfold zM;rw[decide_eq_true_iff];exact .inr rfl
  have hz1:=(h.z1 _ hr1).1
  have htl:=h.tree_lt
  have hll:=h.tl
  have hsl:=h.sl
  have hnn:=h.nn
  have hc2:=h.c2
  have hbn:=h.bn
  refine ⟨nb,hd,by omega,fun d q=>(h.pe_lt q).1,fun k hk=>?_,h.dn,h.d1,h.d2,h.ar,h.sz,fun b hb n hn=>(h.ch_ok hn (listB_mem hb).2.1).2.2,by unfold blN at hbn;omega,h.len4,hp,?_,by omega,by omega,by omega⟩
  ·have ih:=rel_ok h hd k (by omega)
   refine (ih.pe_lt ?_).2.2
   show m.pe[k]∈m.pe.drop k
   rw[List.drop_eq_getElem_cons hk]
   exact List.mem_cons_self
  ·have hne:m.root≠nb:=fun e=>by rw[e] at hz1;omega
   have hcs:(m.S.bl.setN nb 1).count m.root=1:=by rw[Mp.count_setN p1,if_neg hne];exact hz1
   have:=Mp.lt_of_count (m:=m.S.bl.setN nb 1) (b:=m.root) (by omega)
   unfold Mp.decE
   rw[if_neg (by omega),if_neg (by omega)]
end
end
end Go.Proofs.YtplhdjdkobddnaaGreat
