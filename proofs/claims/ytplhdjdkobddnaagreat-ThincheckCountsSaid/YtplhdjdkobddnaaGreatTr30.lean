/- MtF MtG MtH -/
import Derived.Test.YtplhdjdkobddnaaGreatTr29
set_option linter.unusedVariables false
set_option maxRecDepth 100000
set_option maxHeartbeats 40000000
namespace Go.Proofs.YtplhdjdkobddnaaGreat
section
open Go.RowKit
attribute [local go_sem] Oper.semAt_some
theorem erase_at:∀(l:List Nat) (d k:Nat),k<l.length→l[k]?.getD 0=d→(∀j,j<k→l[j]?.getD 0≠d)→l.erase d=l.take k++l.drop (k+1)
 | [],_,k,h,_,_=>by simp at h
 |x :: l,d,0,_,h,_=>by
  have:x=d:=by simpa using h
  subst this
  simp
 |x :: l,d,k+1,h,h1,h0=>by
  have hx:x≠d:=by have:=h0 0 (by omega);simpa using this
  rw[List.erase_cons_tail (by simpa using hx),List.take_succ_cons,List.drop_succ_cons,List.cons_append,erase_at l d k (by simpa using h) (by simpa using h1) (fun j hj=>by have:=h0 (j+1) (by omega);simpa using this)]
theorem reads_take {w:World} {A:Option Addr} {l:List Value} (h:Reads w A l) (k:Nat):Reads w A (l.take k):=by
 intro h0
 obtain ⟨b,o,e,hlt,hc⟩:=h (by intro q;rw[List.length_eq_zero_iff.1 q] at h0;simp at h0)
 exact ⟨b,o,e,hlt,fun j u hj=>hc j u (by
  rw[List.getElem?_take] at hj
  split at hj
  ·exact hj
  ·cases hj)⟩
theorem reads_drop {w:World} {b o:Nat} {l:List Value} (h:Reads w (some ⟨b,o,none⟩) l) (k:Nat):Reads w (some ⟨b,o+k,none⟩) (l.drop k):=by
 intro h0
 obtain ⟨b',o',e,hlt,hc⟩:=h (by intro q;rw[List.length_eq_zero_iff.1 q] at h0;simp at h0)
 injection e with e
 injection e with e1 e2
 subst e1 e2
 refine ⟨b,o+k,rfl,hlt,fun j u hj=>?_⟩
 rw[List.getElem?_drop] at hj
 rw[Nat.add_assoc]
 exact hc _ u hj
theorem rpending27_yes (W:World) (F:Nat→Prop) (M:Nat) (P:SP) (m:Mt) (h:MtIn W F M P m) (d:Nat) (hd:d∈m.pe) :
  Calls Tryz.prog 93 #[.pointer (some ⟨M,0,none⟩),.int .i64 (d:Int)] W fun e w'=>e=.returned (.bool true)∧MtR W w' F M P { m with pe:=m.pe.erase d }:=by
 obtain ⟨i0,hi0,hz0,hz1,hz2⟩:=info_parts int_info
 obtain ⟨Ad,cd,Ao,co,Ap,cp,c1,-,-,r3⟩:=h.cells
 have x13:=c1.cell 13
 have hpl:=h.pl
 obtain ⟨b,off,rfl,hb,hcl⟩:=r3.reads (by rw[nv_length];intro q;rw[List.length_eq_zero_iff.1 q] at hd;cases hd)
 have HRD:=Hi r3.reads
 have hnc:m.pe.length≤cp:=by
  obtain ⟨A',c',e,-,q,-⟩:=r3
  injection e with _ _ e
  rw[e]
  exact q
 have HC:Hid (∀k,k<m.pe.length→W.cell? ⟨b,off+k,none⟩=some (.int .i64 (((m.pe[k]?.getD 0:Nat)):Int))):=fun k hk=>hcl _ _ (nv_at m.pe k hk)
 have HNV:=Hi (nv_length m.pe)
 have HEX:Hid (∃k,k<m.pe.length∧m.pe[k]?.getD 0=d):=by
  obtain ⟨k,hk,e⟩:=List.getElem_of_mem hd
  exact ⟨k,hk,by rw[List.getElem?_eq_getElem hk];exact e⟩
 obtain ⟨n,hn⟩ :∃n,m.pe.length=n:=⟨_,rfl⟩
 rw[hn] at x13 HC hpl HNV HEX hnc
 have HN:=Hi hn
 have H:=Hi h
 clear c1 r3 h hn hd hcl
 have e4:∀w,Below W.heap.size W w→w.frozen? ⟨M,13,none⟩=false∧w.cell? ⟨M,13,none⟩=some (.slice (some ⟨b,off,none⟩) n cp):=fun w hw=>by
  obtain ⟨_,_,_,_,_,_,q,_⟩:=(H.out.keep hw).cells
  exact ⟨q.free 13,(hw.cell (p:=⟨M,13,none⟩) H.out.lt).trans x13⟩
 have E4:=Hi e4
 clear e4
 go_enter Tryz.func93,Tryz.ntmps93
 go_wp2_with fail
 go_loop [5] (fun i=>∃k:Nat,k<n∧i=.int .i64 k∧Hid (∀j,j<k→m.pe[j]?.getD 0≠d)) (fun i=>n - (intOf i).toNat)
 case atStart=>
  obtain ⟨k,hk,-⟩:=HEX.out
  exact ⟨0,by omega,rfl,fun u hu=>by omega⟩
 case round=>
  obtain ⟨k,hlt,rfl,hf⟩:=hrel
  have hc:=HC.out k hlt
  obtain ⟨x,hx⟩ :∃x,m.pe[k]?.getD 0=x:=⟨_,rfl⟩
  rw[hx] at hc
  have HX:=Hi hx
  clear hx
  by_cases e:x=d
  ·subst e
   have d2:(k:Int)<(n:Int):=by omega
   have e1:IntKind.i64.wrap ((k:Int)+1)=((k+1:Nat):Int):=by rw[IntWalk.i64_in _ (by omega)];omega
   go_wp2_with fail
   have hkc:k≤cp:=by omega
   have d5:(0:Int)≤(k:Int)+1:=by omega
   have d6:(k:Int)+1≤(n:Int):=by omega
   obtain ⟨A9,hA9⟩ :∃A9,(if cp=k+1 then some ⟨b,off,none⟩ else some ⟨b,off+(k+1),none⟩ :Option Addr)=A9:=⟨_,rfl⟩
   have hr1:Reads W (some ⟨b,off,none⟩) (nv (m.pe.take k)):=by
    have:=reads_take HRD.out k
    unfold nv at this ⊢
    rw[←List.map_take] at this
    exact this
   have hr2:Reads W A9 (nv (m.pe.drop (k+1))):=by
    rw[←hA9]
    split
    ·have:m.pe.drop (k+1)= []:=List.drop_eq_nil_of_le (by rw[HN.out];omega)
     rw[this]
     exact Reads.nil
    ·have:=reads_drop HRD.out (k+1)
     unfold nv at this ⊢
     rw[←List.map_drop] at this
     exact this
   have hn1:(nv (m.pe.take k)).length=k:=by rw[nv_length,List.length_take,HN.out];omega
   have hn2:(nv (m.pe.drop (k+1))).length=n - (k+1):=by rw[nv_length,List.length_drop,HN.out]
   have HR2:=Hi hr2
   have HN2:=Hi hn2
   have HER:=Hi (erase_at m.pe x k (by rw[HN.out];exact hlt) HX.out hf.out)
   refine wp_region_scr [(true,0),(true,1),(true,2),(true,3),(true,4),(true,5),(true,6),(true,8),(true,9),(true,10),(true,11),(true,12),(true,13),(true,14),(false,7),(false,15)] [16,17,18] 16 (by kernel_rfl) (by decide +kernel) (fun w=>w.cell? ⟨M,13,none⟩=some (.slice (some ⟨b,off,none⟩) n cp)) x13 ?_
   simp only[pickS,pickL,List.getElem?_toArray,List.getElem?_cons_zero,List.getElem?_cons_succ]
   iterate 14
    refine ⟨?_,Or.inl ⟨by rfl,fun W' hS'=>?_⟩,fun _ _ _ h=>h,?_⟩
    rotate_left
    ·go_simp
     with_reducible rfl
    simp only[Act.put,List.setIfInBounds_toArray,List.set_cons_zero,List.set_cons_succ]
   refine wpScr_step (fun K hK=>?_)
   refine step_append_reads _ (by rfl) _ _ _ (by rfl) W.heap.size 3 i0 _ 1 8 Tryz.underlying22 hi0 hz0 hz1 hz2 (by rfl) (by omega) (.slice none 0 0) 0 [] (by rfl) (World.ownsRow_nil _ _ _ _) (some ⟨b,off,none⟩) k cp (nv (m.pe.take k)) (by rfl) (by rw[hn1,Nat.mul_one]) (show Reads W.drew _ _ from hr1) (nv_one _) (by simp only[maxLen];omega) (by omega) (by show W.heap.size≤W.heap.size;exact Nat.le_refl _) ?_
   intro v2 w2 hown2 hg2 hat2
   have hb2:Below W.heap.size W w2:=((Below.refl _ W).drew).grown hg2 (Nat.le_refl _) (by intro k hk;simp[Value.ownBlock] at hk)
   rw[Nat.zero_add,List.nil_append] at hown2
   obtain ⟨A2,c2,hv2⟩:=own_form hown2
   subst hv2
   refine hK _ _ (E4.out _ hb2).2 ?_
   clear hK K
   refine wpScr_step (fun K hK=>?_)
   refine step_append_reads _ (by rfl) _ _ _ (by rfl) W.heap.size 3 i0 _ 1 8 Tryz.underlying22 hi0 hz0 hz1 hz2 (by rfl) (by omega) (.slice A2 k c2) k (nv (m.pe.take k)) (by rfl) hown2 A9 (n - (k+1)) (cp - (k+1)) (nv (m.pe.drop (k+1))) (by rfl) (by rw[HN2.out,Nat.mul_one]) (HR2.out.keep hb2) (nv_one _) (by simp only[maxLen];omega) (by omega) hb2.size ?_
   intro v3 w3 hown3 hg3 hat3
   have hb3:Below W.heap.size W w3:=hb2.grown hg3 hb2.size (own_base hown2)
   obtain ⟨A3,c3,hv3⟩:=own_form hown3
   subst hv3
   obtain ⟨q13,p13⟩:=E4.out _ hb3
   refine hK _ _ p13 ?_
   clear hK K
   have HO3:=Hi hown3
   have HB3:=Hi hb3
   clear hown3 hown2 hg2 hg3 hat2 hat3 hb3 hb2 hr1 hr2
   refine wpSeqL_list _ _ _ (by simp) ?_
   simp only[List.map_cons,List.map_nil]
   go_wp2_with fail
   go_ret
   have hrow:=HO3.out
   have e5:nv (m.pe.take k)++nv (m.pe.drop (k+1))=nv (m.pe.erase x):=by unfold nv;rw[←List.map_append,←HER.out]
   have hln:(m.pe.erase x).length=k+(n - (k+1)):=by rw[HER.out,List.length_append,List.length_take,List.length_drop,HN.out];omega
   rw[e5,←hln] at hrow
   rw[←hln]
   have hsz3:=HB3.out.size
   have hPl:=H.out.st.lt
   have hMl:=H.out.lt
   have H3:=((H.out.keep HB3.out).wide (F':=FN F W) (fun j hj _=>.inl hj) (fun j hj=>.inl (H.out.st.inF j hj)) (fun q=>q.elim H.out.nM (fun e=>by omega)))
   exact ⟨rfl,H3.set_pe (L:=m.pe.erase x) (RowO.own hrow (fun j h1 h2=>⟨.inr (by omega),fun q=>by have:=hPl _ q;omega⟩)) (by rw[hln];omega),(Fr.of_below HB3.out).set (.inl (.inr rfl)) _⟩
  ·have d1:((x:Int) == (d:Int))=false:=by simp;omega
   have d2:¬(x:Int)=(d:Int):=by omega
   go_wp2_with fail
   go_round
   case rel=>
    have hq:k+1<n:=by
     rcases Nat.lt_or_ge (k+1) n with q|q
     ·exact q
     ·obtain ⟨j,hj,hjd⟩:=HEX.out
      have:j<k∨j=k:=by omega
      rcases this with q2|rfl
      ·exact absurd hjd (hf.out j q2)
      ·rw[HX.out] at hjd
       exact absurd hjd e
    exact ⟨k+1,hq,by go_num,fun j hj=>by
     rcases Nat.lt_or_ge j k with q|q
     ·exact hf.out j q
     ·obtain rfl:j=k:=by omega
      rw[HX.out]
      exact e⟩
   case measure=>simp[intOf];omega
def Mt.freed (m:Mt) (d:Nat):Mt:={ m with S:={ m.S with da:=m.S.da.dec d },pe:=m.pe.erase d,done:=true }
theorem rrelease27_yes (W:World) (F:Nat→Prop) (M:Nat) (P:SP) (m:Mt) (h:MtIn W F M P m) (d:Nat) (hd:d∈m.pe) (hdd:d<m.data) (hde:m.S.da.decE d=0) :
  Calls Tryz.prog 42 #[.pointer (some ⟨M,0,none⟩),.int .i64 (d:Int)] W fun e w'=>e=.returned (.int .i64 0)∧MtR W w' F M P (m.freed d):=by
 have hp:=Hi (rpending27_yes W F M P m h d hd)
 obtain ⟨Ad,cd,Ao,co,Ap,cp,c1,-⟩:=h.cells
 have x3:=c1.cell 3
 have d1:¬(d:Int)<0:=by omega
 have d2:¬(m.data:Int)≤(d:Int):=by omega
 have H:=Hi h
 have HDE:=Hi hde
 clear c1 h hde
 go_enter Tryz.func42,Tryz.ntmps42
 go_wp2_with fail
 refine hp.out.mono ?_
 rintro e w1 ⟨rfl,hr1⟩
 have H1:=Hi hr1.si
 have HF:=Hi hr1.fr
 obtain ⟨_,_,_,_,_,_,c1,-⟩:=hr1.si.cells
 have f14:=c1.free 14
 have q14:=c1.cell 14
 have y9:=c1.cell 9
 have hM1:=hr1.si.lt
 have H2:=hr1.si.set_done true
 have hdc:=rdec_any H2.st.md d
 rw[show Mp.decE _ d=0 from HDE.out,if_pos rfl] at hdc
 have HDC:=Hi hdc
 have H2':=Hi H2
 clear c1 H2 hdc hr1
 go_wp2_with fail
 refine HDC.out.mono ?_
 rintro e w3 ⟨rfl,hm3,hf3⟩
 have hs3:=H2'.out.st.daSet hm3 hf3
 have H3:=Hi (H2'.out.store (hf3.has has_dn) hs3 (fun j hj _=>hj) H2'.out.nM rfl)
 have HF3:=Hi hf3
 clear hm3 hf3 hs3
 go_wp2_with fail
 go_ret
 exact ⟨rfl,H3.out,(HF.out.set (.inl (.inr rfl)) _).trans (HF3.out.mono (fun j _ e=>.inl (has_dn _ e)))⟩
end
section
open Go.RowKit
attribute [local go_sem] Oper.semAt_some
def DropC (P:SP) (ws:List Nat) (S:St) (r:Nat) (k:Bool) (S':St):Prop:=∀(F:Nat→Prop) (w:World),StIn w F P S ws→
 Calls Tryz.prog 87 #[.pointer (some ⟨P.s,0,none⟩),.int .i64 (r:Int),.bool k] w fun e w'=>Fr P.has w w'∧e=.returned (.int .i64 0)∧StIn w' F P S' ws
def Mt.delE (m:Mt) (id:Nat):Int:=if hasD m.dv id=false then 25 else if m.S.bl.free<16 then 26 else 0
def Mt.gone (m:Mt) (id t:Nat) (S':St):Mt:={ m with S:=S',tree:=t,dv:=m.dv.take ((fnd m.dv id).getD 0)++m.dv.drop ((fnd m.dv id).getD 0+1),done:=true }
theorem rdelete27_no (W:World) (F:Nat→Prop) (M:Nat) (P:SP) (m:Mt) (h:MtIn W F M P m) (id:Nat) (hid:id≤65535) (hE:m.delE id≠0) :
  Calls Tryz.prog 39 #[.pointer (some ⟨M,0,none⟩),.int .i64 (id:Int)] W fun e w'=>e=.returned (.int .i64 (m.delE id))∧W=w':=by
 have hb:=Hi (rbadid_any id W hid)
 have hf:=Hi (rfreemeta_any h)
 obtain ⟨Ad,cd,Ao,co,Ap,cp,c1,r1,-⟩:=h.cells
 have hfi:=Hi (rfind27_any Ad m.dv.length cd m.dv id W rfl r1.reads (by have:=h.dl;omega))
 have x11:=c1.cell 11
 have HE:Hid (m.delE id=if hasD m.dv id=false then 25 else if m.S.bl.free<16 then 26 else 0):=rfl
 obtain ⟨ho,hho⟩ :∃q,hasD m.dv id=q:=⟨_,rfl⟩
 obtain ⟨fr,hfr⟩ :∃q,m.S.bl.free=q:=⟨_,rfl⟩
 obtain ⟨E,hEE⟩ :∃q,m.delE id=q:=⟨_,rfl⟩
 obtain ⟨kk,hkk⟩ :∃q,(fnd m.dv id).getD 0=q:=⟨_,rfl⟩
 rw[hho,hkk] at hfi
 rw[hho,hfr] at HE
 rw[hfr] at hf
 rw[hEE] at HE hE ⊢
 clear c1 hho hfr hEE hkk h r1
 cases ho
 ·obtain rfl:E=25:=by have:=HE.out;rw[if_pos rfl] at this;exact this
  go_enter Tryz.func39,Tryz.ntmps39
  go_wp2_with fail
  refine hfi.out.mono ?_
  rintro e w' ⟨rfl,rfl⟩
  go_wp2_with fail
  refine hb.out.mono ?_
  rintro e w' ⟨rfl,rfl⟩
  go_wp2_with fail
  go_ret
  exact ⟨rfl,rfl⟩
 ·have h3:fr<16:=by
   have:=HE.out
   rw[if_neg (by simp)] at this
   by_cases q:fr<16
   ·exact q
   ·rw[if_neg q] at this
    exact absurd this hE
  obtain rfl:E=26:=by have:=HE.out;rw[if_neg (by simp),if_pos h3] at this;exact this
  have d3:(fr:Int)<16:=by omega
  go_enter Tryz.func39,Tryz.ntmps39
  go_wp2_with fail
  refine hfi.out.mono ?_
  rintro e w' ⟨rfl,rfl⟩
  go_wp2_with fail
  refine hb.out.mono ?_
  rintro e w' ⟨rfl,rfl⟩
  go_wp2_with fail
  refine hf.out.mono ?_
  rintro e w' ⟨rfl,rfl⟩
  go_wp2_with fail
  go_ret
  exact ⟨rfl,rfl⟩
theorem delE_ok {m:Mt} {id:Nat} (h:m.delE id=0):hasD m.dv id=true∧16≤m.S.bl.free:=by
 unfold Mt.delE at h
 split at h
 ·cases h
 ·split at h
  ·cases h
  ·rename_i a b
   exact ⟨by simpa using a,by omega⟩
theorem dvv_take (l:List Dv):∀k,(dvv l).take (k * 4)=dvv (l.take k):=by
 induction l with
 |nil=>intro k;simp[dvv]
 |cons d l ih=>
  intro k
  rcases k with _|k
  ·simp[dvv]
  ·have e:dvv (d :: l)=d.cells++dvv l:=rfl
   have hl:d.cells.length=4:=rfl
   rw[e,List.take_append,hl,show (k+1) * 4 - 4=k * 4 by omega,ih k,List.take_of_length_le (by rw[hl];omega),List.take_succ_cons]
   rfl
theorem dvv_drop (l:List Dv):∀k,(dvv l).drop (k * 4)=dvv (l.drop k):=by
 induction l with
 |nil=>intro k;simp[dvv]
 |cons d l ih=>
  intro k
  rcases k with _|k
  ·simp
  ·have e:dvv (d :: l)=d.cells++dvv l:=rfl
   have hl:d.cells.length=4:=rfl
   rw[e,List.drop_append,hl,show (k+1) * 4 - 4=k * 4 by omega,ih k,List.drop_eq_nil_of_le (by rw[hl];omega),List.drop_succ_cons]
   rfl
theorem fr_setN (w:World) (M i j:Nat) (v:Value) (h:i≠j):(w.setCell ⟨M,i,none⟩ v).cell? ⟨M,j,none⟩=w.cell? ⟨M,j,none⟩:=by
 have h1:¬j=i:=fun e=>h e.symm
 go_simp
theorem rdelete27_ok (W:World) (F:Nat→Prop) (M:Nat) (P:SP) (m:Mt) (h:MtIn W F M P m) (id:Nat) (hid:id≤65535) (hE:m.delE id=0) {S1 S2:St} {t old:Nat} (hdr:DropC P m.ws m.S (dvAt m.dv id).rt true S1) (hde:DelC P m.ws S1 false m.tree id t S2 old) :
  Calls Tryz.prog 39 #[.pointer (some ⟨M,0,none⟩),.int .i64 (id:Int)] W fun e w'=>e=.returned (.int .i64 0)∧MtR W w' F M P (m.gone id t S2):=by
 obtain ⟨i0,hi0,hz0,hz1,hz2⟩:=info_parts device_info
 obtain ⟨h2,h5⟩:=delE_ok hE
 obtain ⟨hkl,hdid⟩:=hasD_at h2
 have hb:=Hi (rbadid_any id W hid)
 have hf:=Hi (rfreemeta_any h)
 obtain ⟨Ad,cd,Ao,co,Ap,cp,c1,r1,-⟩:=h.cells
 have hfi:=rfind27_any Ad m.dv.length cd m.dv id W rfl r1.reads (by have:=h.dl;omega)
 rw[h2] at hfi
 have x11:=c1.cell 11
 have x10:=c1.cell 10
 have d2:¬((m.S.bl.free:Nat):Int)<16:=by omega
 obtain ⟨b,off,rfl,hbl,z0,z1,z2,z3⟩:=dv_reads r1.reads hkl
 have hO:dvAt m.dv id=m.dv[(fnd m.dv id).getD 0]:=by unfold dvAt;rw[List.getElem?_eq_getElem hkl];rfl
 rw[←hO] at z1
 have HRD:=Hi r1.reads
 have hnc:m.dv.length≤cd:=by
  obtain ⟨A',c',e,-,q,-⟩:=r1
  injection e with _ _ e
  rw[e]
  exact q
 have hbO:OutF F P b:=by
  obtain ⟨A',c',e,-,-,q⟩:=r1
  injection e with e
  exact (q (by omega) _ e.symm).1
 obtain ⟨rt,hrt⟩ :∃q,(dvAt m.dv id).rt=q:=⟨_,rfl⟩
 rw[hrt] at z1 hdr
 have HG:Hid (m.gone id t S2= { m with S:=S2,tree:=t,dv:=m.dv.take ((fnd m.dv id).getD 0)++m.dv.drop ((fnd m.dv id).getD 0+1),done:=true }):=rfl
 obtain ⟨kk,hkk⟩ :∃q,(fnd m.dv id).getD 0=q:=⟨_,rfl⟩
 rw[hkk] at hfi hkl z1 HG
 have HFI:=Hi hfi
 have H:=Hi h
 have HDR:=Hi (hdr F _ (h.st.keep (Below.refl _ W).drew))
 have HDE:=Hi hde
 obtain ⟨n,hn⟩ :∃n,m.dv.length=n:=⟨_,rfl⟩
 have HNV:=Hi (dvv_length m.dv)
 have hdl:=h.dl
 rw[hn] at x11 HFI hkl hnc HNV hdl
 have HN:=Hi hn
 have d4:(kk:Int)<(n:Int):=by omega
 have hMl:=h.lt
 have hMP:=h.nP
 clear hdr hde c1 hE h2 h5 hfi hO hrt hkk hdid r1 z0 z2 z3 hn h
 go_enter Tryz.func39,Tryz.ntmps39
 go_wp2_with fail
 refine HFI.out.mono ?_
 rintro e w' ⟨rfl,rfl⟩
 go_wp2_with fail
 refine hb.out.mono ?_
 rintro e w' ⟨rfl,rfl⟩
 go_wp2_with fail
 refine hf.out.mono ?_
 rintro e w' ⟨rfl,rfl⟩
 go_wp2_with fail
 refine wp_region_scr [(true,0),(true,1),(true,2),(true,3),(true,4),(true,5),(true,6),(true,7),(true,8),(true,9),(true,10),(true,11)] [12,13] 12 (by kernel_rfl) (by decide +kernel) (fun w=>w.cell? ⟨M,10,none⟩=some (.pointer (some ⟨P.s,0,none⟩))∧w.cell? ⟨M,11,none⟩=some (.slice (some ⟨b,off,none⟩) n cd)∧w.cell? ⟨b,off+kk * 4+1,none⟩=some (.int .i64 (rt:Int))) ⟨x10,x11,z1⟩ ?_
 simp only[pickS,pickL,List.getElem?_toArray,List.getElem?_cons_zero,List.getElem?_cons_succ]
 iterate 12
  refine ⟨?_,Or.inl ⟨by rfl,fun W' hS'=>?_⟩,fun _ _ _ h=>h,?_⟩
  rotate_left
  ·obtain ⟨y10,y11,y1⟩:=hS'
   go_simp
   with_reducible rfl
  simp only[Act.put,List.setIfInBounds_toArray,List.set_cons_zero,List.set_cons_succ]
 refine wpSeqL_list _ _ _ (by simp) ?_
 simp only[List.map_cons,List.map_nil]
 go_wp2_with fail
 refine HDR.out.mono ?_
 rintro e w1 ⟨hf1,rfl,hs1⟩
 have H1:=(H.out.keep (Below.refl _ W).drew).store hf1 hs1 (fun j hj _=>hj) H.out.nM rfl
 have HF1:Hid (Fr (fun j=>P.has j∨j=M) W w1):=((Fr.refl _ W).drew.trans hf1).mono (fun j _ e=>.inl e)
 obtain ⟨_,_,_,_,_,_,c1,-⟩:=H1.cells
 have x7:=c1.cell 7
 have x10b:=c1.cell 10
 have hM1:=H1.lt
 have H1':=Hi H1
 have x11b:w1.cell? ⟨M,11,none⟩=some (.slice (some ⟨b,off,none⟩) n cd):=(hf1.cell (i:=11) hMl hMP).trans x11
 clear hf1 hs1 c1
 go_wp2_with fail
 refine wp_region_scr [(true,0),(true,1),(true,2),(true,3),(true,4),(true,5),(true,6),(true,7),(true,8),(false,9),(true,10),(true,11),(true,12),(true,13),(true,14),(true,15),(true,16),(true,17)] [18] 18 (by kernel_rfl) (by decide +kernel) (fun w=>w.cell? ⟨M,10,none⟩=some (.pointer (some ⟨P.s,0,none⟩))∧w.cell? ⟨M,7,none⟩=some (.int .i64 (m.tree:Int))) ⟨x10b,x7⟩ ?_
 simp only[pickS,pickL,List.getElem?_toArray,List.getElem?_cons_zero,List.getElem?_cons_succ]
 iterate 9
  refine ⟨?_,Or.inl ⟨by rfl,fun W' hS'=>?_⟩,fun _ _ _ h=>h,?_⟩
  rotate_left
  ·obtain ⟨y10,y7⟩:=hS'
   go_simp
   with_reducible rfl
  simp only[Act.put,List.setIfInBounds_toArray,List.set_cons_zero,List.set_cons_succ]
 refine wpScr_step (fun K hK=>?_)
 go_simp
 go_at_call 88
 refine (HDE.out F w1.drew (H1'.out.keep (Below.refl _ w1).drew).st).mono ?_
 rintro e w2 ⟨hf2,rfl,hs2⟩
 have hs1z:=HF1.out.size
 refine hK _ _ ⟨(hf2.cell (i:=10) hM1 hMP).trans x10b,(hf2.cell (i:=7) hM1 hMP).trans x7⟩ ?_
 clear hK K
 iterate 8
  refine ⟨?_,Or.inl ⟨by rfl,fun W' hS'=>?_⟩,fun _ _ _ h=>h,?_⟩
  rotate_left
  ·go_simp
   with_reducible rfl
  simp only[Act.put,List.setIfInBounds_toArray,List.set_cons_zero,List.set_cons_succ]
 have hnFN:¬FN F W M:=fun q=>q.elim H.out.nM (fun e=>by omega)
 have H2:=((H1'.out.keep (Below.refl _ w1).drew).store hf2 (hs2.wide (F':=FN F W) (fun j hj _=>hj.elim .inl (fun q=>.inr (Nat.le_trans hs1z q))) (fun j hj=>.inl (H.out.st.inF j hj))) (fun j hj _=>.inl hj) hnFN rfl)
 have H4:=Hi ((H2.set_tree t).set_done true)
 have F2:Fr (fun j=>P.has j∨j=M) W w2:=HF1.out.trans (((Fr.refl _ w1).drew.trans hf2).mono (fun j _ e=>.inl e))
 have F4:=Hi ((F2.set (b:=M) (i:=7) (.inl (.inr rfl)) (.int .i64 (t:Int))).set (b:=M) (i:=14) (.inl (.inr rfl)) (.bool true))
 obtain ⟨_,_,_,_,_,_,c2,-⟩:=H2.cells
 have f7:=c2.free 7
 have g7:=c2.cell 7
 have f14:=c2.free 14
 have g14:=c2.cell 14
 have y11:w2.cell? ⟨M,11,none⟩=some (.slice (some ⟨b,off,none⟩) n cd):=(hf2.cell (i:=11) hM1 hMP).trans x11b
 clear c2 H2 hf2 hs2
 refine wpSeqL_list _ _ _ (by simp) ?_
 simp only[List.map_cons,List.map_nil]
 go_wp2_with fail
 have HRD4:Reads ((w2.setCell ⟨M,7,none⟩ (.int .i64 (t:Int))).setCell ⟨M,14,none⟩ (.bool true)) (some ⟨b,off,none⟩) (dvv m.dv):=HRD.out.fr F4.out (fun _ p hp q=>by
  injection hp with hp
  subst hp
  rcases q with q|q
  ·exact hbO.2 q
  ·exact H.out.nM (by rw[←q];exact hbO.1))
 have z11:((w2.setCell ⟨M,7,none⟩ (.int .i64 (t:Int))).setCell ⟨M,14,none⟩ (.bool true)).cell? ⟨M,11,none⟩=some (.slice (some ⟨b,off,none⟩) n cd):=by
  have q1:=(fr_setN w2 M 7 11 (.int .i64 (t:Int)) (by omega))
  have q2:=(fr_setN (w2.setCell ⟨M,7,none⟩ (.int .i64 (t:Int))) M 14 11 (.bool true) (by omega))
  rw[q2,q1]
  exact y11
 clear f7 g7 f14 g14 y11 x7 x10b x11b
 generalize ((w2.setCell ⟨M,7,none⟩ (.int .i64 (t:Int))).setCell ⟨M,14,none⟩ (.bool true))=w4 at *
 have hM4:=H4.out.lt
 have E4:Hid (∀w,Below w4.heap.size w4 w→w.frozen? ⟨M,11,none⟩=false∧w.cell? ⟨M,11,none⟩=some (.slice (some ⟨b,off,none⟩) n cd)):=fun w hw=>by
  obtain ⟨_,_,_,_,_,_,q,_⟩:=(H4.out.keep hw).cells
  exact ⟨q.free 11,(hw.cell (p:=⟨M,11,none⟩) hM4).trans z11⟩
 have hkc:kk≤cd:=by omega
 have d5:(0:Int)≤(kk:Int)+1:=by omega
 have d6:(kk:Int)+1≤(n:Int):=by omega
 have e1:IntKind.i64.wrap ((kk:Int)+1)=(kk:Int)+1:=by rw[IntWalk.i64_in _ (by omega)]
 obtain ⟨A9,hA9⟩ :∃A9,(if cd=kk+1 then some ⟨b,off,none⟩ else some ⟨b,off+(kk+1) * 4,none⟩ :Option Addr)=A9:=⟨_,rfl⟩
 have hr1:Reads w4 (some ⟨b,off,none⟩) (dvv (m.dv.take kk)):=by
  have:=reads_take HRD4 (kk * 4)
  rw[dvv_take] at this
  exact this
 have hr2:Reads w4 A9 (dvv (m.dv.drop (kk+1))):=by
  rw[←hA9]
  split
  ·have:m.dv.drop (kk+1)= []:=List.drop_eq_nil_of_le (by rw[HN.out];omega)
   rw[this]
   exact Reads.nil
  ·have:=reads_drop HRD4 ((kk+1) * 4)
   rw[dvv_drop] at this
   exact this
 have hn1:(dvv (m.dv.take kk)).length=kk * 4:=by rw[dvv_length,List.length_take,HN.out];omega
 have hn2:(dvv (m.dv.drop (kk+1))).length=(n - (kk+1)) * 4:=by rw[dvv_length,List.length_drop,HN.out]
 have HR2:=Hi hr2
 have HN2:=Hi hn2
 refine wp_region_scr [(true,0),(true,1),(true,2),(true,3),(true,4),(true,5),(true,6),(true,8),(true,9),(true,10),(true,11),(true,12),(true,13),(true,14),(false,7),(false,15)] [16,17,18] 16 (by kernel_rfl) (by decide +kernel) (fun w=>w.cell? ⟨M,11,none⟩=some (.slice (some ⟨b,off,none⟩) n cd)) z11 ?_
 simp only[pickS,pickL,List.getElem?_toArray,List.getElem?_cons_zero,List.getElem?_cons_succ]
 iterate 14
  refine ⟨?_,Or.inl ⟨by rfl,fun W' hS'=>?_⟩,fun _ _ _ h=>h,?_⟩
  rotate_left
  ·go_simp
   with_reducible rfl
  simp only[Act.put,List.setIfInBounds_toArray,List.set_cons_zero,List.set_cons_succ]
 refine wpScr_step (fun K hK=>?_)
 refine step_append_reads _ (by rfl) _ _ _ (by rfl) w4.heap.size 91 i0 _ 4 32 Tryz.underlying80 hi0 hz0 hz1 hz2 (by rfl) (by omega) (.slice none 0 0) 0 [] (by rfl) (World.ownsRow_nil _ _ _ _) (some ⟨b,off,none⟩) kk cd (dvv (m.dv.take kk)) (by rfl) (by rw[hn1]) (show Reads w4.drew _ _ from hr1) (dvv_one _) (by simp only[maxLen];omega) (by omega) (by show w4.heap.size≤w4.heap.size;exact Nat.le_refl _) ?_
 intro v5 w5 hown5 hg5 hat5
 have hb5:Below w4.heap.size w4 w5:=((Below.refl _ w4).drew).grown hg5 (Nat.le_refl _) (by intro k hk;simp[Value.ownBlock] at hk)
 rw[Nat.zero_add,List.nil_append] at hown5
 obtain ⟨A5,c5,hv5⟩:=own_form hown5
 subst hv5
 refine hK _ _ (E4.out _ hb5).2 ?_
 clear hK K
 refine wpScr_step (fun K hK=>?_)
 refine step_append_reads _ (by rfl) _ _ _ (by rfl) w4.heap.size 91 i0 _ 4 32 Tryz.underlying80 hi0 hz0 hz1 hz2 (by rfl) (by omega) (.slice A5 kk c5) kk (dvv (m.dv.take kk)) (by rfl) hown5 A9 (n - (kk+1)) (cd - (kk+1)) (dvv (m.dv.drop (kk+1))) (by rfl) (by rw[HN2.out]) (HR2.out.keep hb5) (dvv_one _) (by simp only[maxLen];omega) (by omega) hb5.size ?_
 intro v6 w6 hown6 hg6 hat6
 have hb6:Below w4.heap.size w4 w6:=hb5.grown hg6 hb5.size (own_base hown5)
 obtain ⟨A6,c6,hv6⟩:=own_form hown6
 subst hv6
 obtain ⟨q11,p11⟩:=E4.out _ hb6
 refine hK _ _ p11 ?_
 clear hK K
 have HO6:=Hi hown6
 have HB6:=Hi hb6
 clear hown6 hown5 hg5 hg6 hat5 hat6 hb6 hb5 hr1 hr2
 refine wpSeqL_list _ _ _ (by simp) ?_
 simp only[List.map_cons,List.map_nil]
 go_wp2_with fail
 go_ret
 have hrow:=HO6.out
 rw[←dvv_append] at hrow
 have hln:(m.dv.take kk++m.dv.drop (kk+1)).length=kk+(n - (kk+1)):=by rw[List.length_append,List.length_take,List.length_drop,HN.out];omega
 rw[←hln] at hrow
 rw[HG.out,←hln]
 have hsz6:=HB6.out.size
 have hszW:=F4.out.size
 have hPl:=H.out.st.lt
 have H6:=(H4.out.keep HB6.out)
 exact ⟨rfl,H6.set_dv (L:=m.dv.take kk++m.dv.drop (kk+1)) (RowO.own hrow (fun j h1 h2=>⟨.inr (by omega),fun q=>by have:=hPl _ q;omega⟩)) (by rw[hln];omega),(F4.out.trans (Fr.of_below HB6.out)).set (.inl (.inr rfl)) _⟩
end
section
open Go.RowKit
attribute [local go_sem] Oper.semAt_some
def Mt.mapE (m:Mt) (id b d:Nat):Int:=if 16777215<b∨m.data≤d then 1 else if hasD m.dv id=false then 25 else if d∉m.pe then 12 else if m.S.bl.free<32 then 26 else 0
theorem mapE_ok {m:Mt} {id b d:Nat} (h:m.mapE id b d=0):b≤16777215∧d<m.data∧hasD m.dv id=true∧d∈m.pe∧32≤m.S.bl.free:=by
 unfold Mt.mapE at h
 split at h
 ·cases h
 ·split at h
  ·cases h
  ·split at h
   ·cases h
   ·split at h
    ·cases h
    ·rename_i a b c d
     exact ⟨by omega,by omega,by simpa using b,Classical.not_not.1 c,by omega⟩
def Mt.mapd (m:Mt) (d:Nat) (S':St):Mt:={ m with S:=S',pe:=m.pe.erase d }
theorem rmap27_ok (W:World) (F:Nat→Prop) (M:Nat) (P:SP) (m:Mt) (h:MtIn W F M P m) (id b d:Nat) (hid:id≤65535) (hE:m.mapE id b d=0) (hdv:d<16777216) (htm:m.time<1048576) (htd:(dvAt m.dv id).tm<1048576) (hmp:(dvAt m.dv id).mp<16777215) {S1 S3:St} {t1 t2 old old2:Nat} {had had2:Bool} (ht1:t1<1048576) (hold:old<18446744073709551616)
  (hi:InsC P m.ws m.S true (dvAt m.dv id).rt b (mpV d m.time) t1 S1 old had) (hdec:had=true→S1.da.decE (dOf old)=0)
  (hi2:InsC P m.ws (if had=true then { S1 with da:=S1.da.dec (dOf old) } else S1) false m.tree id (Dv.mk id t1 (dvAt m.dv id).tm (if had=true then (dvAt m.dv id).mp else (dvAt m.dv id).mp+1)).val t2 S3 old2 had2)
  (hl64:(insF m.dv ⟨id,t1,(dvAt m.dv id).tm,if had=true then (dvAt m.dv id).mp else (dvAt m.dv id).mp+1⟩).length≤64) :
  Calls Tryz.prog 41 #[.pointer (some ⟨M,0,none⟩),.int .i64 (id:Int),.int .i64 (b:Int),.int .i64 (d:Int)] W fun e w'=>e=.returned (.int .i64 0)∧MtR W w' F M P ((m.mapd d (if had=true then { S1 with da:=S1.da.dec (dOf old) } else S1)).setD ⟨id,t1,(dvAt m.dv id).tm,if had=true then (dvAt m.dv id).mp else (dvAt m.dv id).mp+1⟩ t2 S3):=by
 obtain ⟨h1,h2,h3,h4,h5⟩:=mapE_ok hE
 obtain ⟨hkl,hdid⟩:=hasD_at h3
 have hb:=Hi (rbadid_any id W hid)
 have hf:=Hi (rfreemeta_any h)
 have hip:=rispending_any h d
 rw[decide_eq_true h4] at hip
 have HIP:=Hi hip
 have HPE:=Hi h4
 obtain ⟨Ad,cd,Ao,co,Ap,cp,c1,r1,-⟩:=h.cells
 have hfi:=rfind27_any Ad m.dv.length cd m.dv id W rfl r1.reads (by have:=h.dl;omega)
 rw[h3] at hfi
 have x11:=c1.cell 11
 have x2:=c1.cell 2
 have x3:=c1.cell 3
 have x9:=c1.cell 9
 have x10:=c1.cell 10
 have d1:¬(b:Int)<0:=by omega
 have d2:¬((m.S.bl.free:Nat):Int)<32:=by omega
 have d3:¬(16777215:Int)<(b:Int):=by omega
 have d5:¬(d:Int)<0:=by omega
 have d6:¬(m.data:Int)≤(d:Int):=by omega
 obtain ⟨bb,off,rfl,hbl,z0,z1,z2,z3⟩:=dv_reads r1.reads hkl
 have hO:dvAt m.dv id=m.dv[(fnd m.dv id).getD 0]:=by unfold dvAt;rw[List.getElem?_eq_getElem hkl];rfl
 rw[←hO] at z0 z1 z2 z3
 rw[hdid] at z0
 obtain ⟨rt,hrt⟩ :∃q,(dvAt m.dv id).rt=q:=⟨_,rfl⟩
 obtain ⟨tm,htme⟩ :∃q,(dvAt m.dv id).tm=q:=⟨_,rfl⟩
 obtain ⟨mp,hmpe⟩ :∃q,(dvAt m.dv id).mp=q:=⟨_,rfl⟩
 rw[hrt] at z1 hi
 rw[htme] at z2 htd hi2 hl64 ⊢
 rw[hmpe] at z3 hmp hi2 hl64 ⊢
 obtain ⟨kk,hkk⟩ :∃q,(fnd m.dv id).getD 0=q:=⟨_,rfl⟩
 rw[hkk] at hfi hkl z0 z1 z2 z3
 have HFI:=Hi hfi
 have H0:=Hi h
 have H:=Hi h.tight
 have HI:=Hi hi
 have HI2:=Hi hi2
 have d4:(kk:Int)<(m.dv.length:Int):=by omega
 have hMl:=h.lt
 have hMP:=h.nP
 have HMV:=Hi (fun w=>rmapvalue_any d m.time w hdv htm)
 obtain ⟨mv,hmv⟩ :∃q,mpV d m.time=q:=⟨_,rfl⟩
 rw[hmv] at HMV HI
 have B1:Below W.heap.size W (W.alloc (.cells #[.int .i64 (id:Int),.int .i64 (rt:Int),.int .i64 (tm:Int),.int .i64 (mp:Int)] 91)):=(Below.refl _ W).alloc (Nat.le_refl _) _
 have C1:=Cs.new W 91 #[.int .i64 (id:Int),.int .i64 (rt:Int),.int .i64 (tm:Int),.int .i64 (mp:Int)]
 have hDD:=Hi hdec
 have HDA:=Hi (fun w=>rdata_any old w hold)
 have hdol:dOf old<16777216:=Nat.mod_lt _ (by omega)
 have hl64':=Hi hl64
 clear hip hi hi2 c1 hE h1 h2 h3 h4 h5 hfi hO hkk hdid r1 h hrt htme hmpe hmv hdec hl64
 go_enter Tryz.func41,Tryz.ntmps41
 go_wp2_with fail
 refine HFI.out.mono ?_
 rintro e w' ⟨rfl,rfl⟩
 go_wp2_with fail
 refine hb.out.mono ?_
 rintro e w' ⟨rfl,rfl⟩
 go_wp2_with fail
 refine HIP.out.mono ?_
 rintro e w' ⟨rfl,rfl⟩
 go_wp2_with fail
 refine hf.out.mono ?_
 rintro e w' ⟨rfl,rfl⟩
 go_wp2_with fail
 have hz1:(W.alloc (.cells #[.int .i64 (id:Int),.int .i64 (rt:Int),.int .i64 (tm:Int),.int .i64 (mp:Int)] 91)).heap.size=W.heap.size+1:=by simp
 generalize (W.alloc (.cells #[.int .i64 (id:Int),.int .i64 (rt:Int),.int .i64 (tm:Int),.int .i64 (mp:Int)] 91))=W1 at *
 obtain ⟨B,hB⟩ :∃q,W.heap.size=q:=⟨_,rfl⟩
 rw[hB] at C1 hz1 ⊢
 have hMB:¬M=B:=by omega
 have hBP:¬P.has B:=fun q=>by have:=H.out.st.lt B q;omega
 have H1:=Hi (H.out.keep B1)
 have hMl1:M<W1.heap.size:=by omega
 have HS0:Hid (∀w,Below W.heap.size W w→w.cell? ⟨M,2,none⟩=some (.int .i64 (m.time:Int))∧w.cell? ⟨M,10,none⟩=some (.pointer (some ⟨P.s,0,none⟩))):=fun w hw=>⟨(hw.cell (p:=⟨M,2,none⟩) hMl).trans x2,(hw.cell (p:=⟨M,10,none⟩) hMl).trans x10⟩
 refine wp_region_scr [(true,0),(true,1),(true,2),(true,3),(true,4),(true,5),(true,6),(true,7),(true,8),(true,9),(true,10),(true,11),(false,12),(false,13),(true,14),(true,15),(true,16),(true,17),(true,18),(true,19),(true,20),(true,21)] [22] 22 (by kernel_rfl) (by decide +kernel) (fun w=>(w.cell? ⟨M,2,none⟩=some (.int .i64 (m.time:Int))∧w.cell? ⟨M,10,none⟩=some (.pointer (some ⟨P.s,0,none⟩)))∧w.cell? ⟨B,1,none⟩=some (.int .i64 (rt:Int))) ⟨HS0.out _ B1.drew,C1.cell 1⟩ ?_
 simp only[pickS,pickL,List.getElem?_toArray,List.getElem?_cons_zero,List.getElem?_cons_succ]
 iterate 12
  refine ⟨?_,Or.inl ⟨by rfl,fun W' hS'=>?_⟩,fun _ _ _ h=>h,?_⟩
  rotate_left
  ·obtain ⟨⟨y2,y10⟩,y1⟩:=hS'
   go_simp
   with_reducible rfl
  simp only[Act.put,List.setIfInBounds_toArray,List.set_cons_zero,List.set_cons_succ]
 refine wpScr_step (fun K hK=>?_)
 go_simp
 go_at_call 92
 refine (HMV.out _).mono ?_
 rintro e w2 ⟨rfl,rfl⟩
 refine hK _ _ ⟨HS0.out _ B1.drew,C1.cell 1⟩ ?_
 clear hK K
 refine wpScr_step (fun K hK=>?_)
 go_simp
 go_at_call 91
 refine (HI.out _ W1.drew (H1.out.keep (Below.refl _ W1).drew).st).mono ?_
 rintro e w2 ⟨hf2,rfl,hs2⟩
 have C2:=Cs.fr (W:=W1.drew) C1 hf2 hBP
 refine hK _ _ ⟨⟨(hf2.cell (i:=2) hMl1 hMP).trans (HS0.out _ B1.drew).1,(hf2.cell (i:=10) hMl1 hMP).trans (HS0.out _ B1.drew).2⟩,C2.cell 1⟩ ?_
 clear hK K
 iterate 8
  refine ⟨?_,Or.inl ⟨by rfl,fun W' hS'=>?_⟩,fun _ _ _ h=>h,?_⟩
  rotate_left
  ·go_simp
   with_reducible rfl
  simp only[Act.put,List.setIfInBounds_toArray,List.set_cons_zero,List.set_cons_succ]
 refine wpSeqL_list _ _ _ (by simp) ?_
 simp only[List.map_cons,List.map_nil]
 have hnM1:¬FN (fun j=>F j∧j<W.heap.size) W1 M:=fun q=>q.elim (fun e=>H0.out.nM e.1) (fun e=>by omega)
 have H2:=(H1.out.keep (Below.refl _ W1).drew).store hf2 hs2 (fun j hj _=>.inl hj) hnM1 rfl
 have F2:Fr (fun j=>P.has j∨j=M) W w2:=(Fr.of_below B1).trans (((Fr.refl _ W1).drew.trans hf2).mono (fun j _ e=>.inl e))
 have hsz2:=F2.size
 have hsz12:=hf2.size
 have hB2:=C2.lt
 have C3:=heap_setCell_same _ B 1 _ _ (.int .i64 (t1:Int)) C2
 have H3:=Hi (H2.fr (fr_set w2 B 1 (.int .i64 (t1:Int))) (fun j hj e=>by
  rcases hj with q|q
  ·have:=q.2;omega
  ·have:W1.heap.size≤j:=q;omega) hMB)
 have F3:=Hi (F2.set (b:=B) (i:=1) (.inr (by omega)) (.int .i64 (t1:Int)))
 have HPD:=Hi (rpending27_yes _ _ M P _ H3.out d HPE.out)
 have k1:=C2.cell 1
 have f1:=C2.free 1
 have HC3:Hid (Cs (w2.setCell ⟨B,1,none⟩ (.int .i64 (t1:Int))) B 91 #[.int .i64 (id:Int),.int .i64 (t1:Int),.int .i64 (tm:Int),.int .i64 (mp:Int)]):=C3
 clear hf2 hs2 H2 F2 C2 C1 C3 HI B1 x2 x3 x9 x10 x11 z0 z1 z2 z3 HS0
 go_wp2_with fail
 generalize (w2.setCell ⟨B,1,none⟩ (.int .i64 (t1:Int)))=w3 at *
 refine HPD.out.mono ?_
 rintro e w4 ⟨rfl,hr4⟩
 have H4:=Hi hr4.si
 have F4:=Hi (F3.out.trans hr4.fr)
 have C4:=HC3.out.fr hr4.fr (fun q=>q.elim hBP (fun e=>hMB e.symm))
 obtain ⟨_,_,_,_,_,_,c4,-⟩:=H4.out.cells
 have y9:=c4.cell 9
 have hM4:=H4.out.lt
 have hs34:=hr4.fr.size
 have hs3:=F3.out.size
 have hBw3:=HC3.out.lt
 have hnB:∀j,FN (FN (fun j=>F j∧j<W.heap.size) W1) w3 j→¬j=B:=fun j hj e=>by
  rcases hj with (q|q)|q
  ·have:=q.2;omega
  ·have:W1.heap.size≤j:=q;omega
  ·omega
 have hfin:∀(w5 w6:World) (m':Mt),w3.heap.size≤w5.heap.size→Fr (fun j=>P.has j∨j=M) W w5→MtR w5 w6 (FN (FN (fun j=>F j∧j<W.heap.size) W1) w3) M P m'→MtR W w6 F M P m':=fun w5 w6 m' hs hfr hr=>by
  have key:∀j,FN (FN (FN (fun j=>F j∧j<W.heap.size) W1) w3) w5 j→FN F W j:=fun j hj=>by
   rcases hj with ((q|q)|q)|q
   ·exact .inl q.1
   ·have:W1.heap.size≤j:=q;exact .inr (by omega)
   ·have:w3.heap.size≤j:=q;exact .inr (by omega)
   ·exact .inr (by omega)
  exact ⟨hr.si.wide (fun j hj _=>key j hj) (fun j hj=>key j (hr.si.st.inF j hj)) (fun q=>q.elim H0.out.nM (fun e=>by omega)),hfr.trans hr.fr⟩
 have HFIN:=Hi hfin
 clear hfin hr4 c4 HPD
 cases had
 ·simp only[Bool.false_eq_true,if_false] at HI2 hl64' ⊢
  have e1:IntKind.i64.wrap ((mp:Int)+1)=(mp:Int)+1:=IntWalk.i64_in _ (by omega)
  have k3:=C4.cell 3
  have f3:=C4.free 3
  have F5:=Hi (F4.out.set (b:=B) (i:=3) (.inr (by omega)) (.int .i64 ((mp:Int)+1)))
  have H5:=Hi (H4.out.fr (fr_set w4 B 3 (.int .i64 ((mp:Int)+1))) hnB hMB)
  have C5:Cs (w4.setCell ⟨B,3,none⟩ (.int .i64 ((mp:Int)+1))) B 91 #[.int .i64 (id:Int),.int .i64 (t1:Int),.int .i64 (tm:Int),.int .i64 ((mp:Int)+1)]:=heap_setCell_same _ B 3 _ _ (.int .i64 ((mp:Int)+1)) C4
  have hz5:(w4.setCell ⟨B,3,none⟩ (.int .i64 ((mp:Int)+1))).heap.size=w4.heap.size:=by simp
  have HS:=rset27 _ _ M P _ H5.out ⟨id,t1,tm,mp+1⟩ hid ht1 htd (by show mp+1<16777216;omega) HI2.out hl64'.out
  have hdv2:(Dv.mk id t1 tm (mp+1)).v=.agg #[.int .i64 (id:Int),.int .i64 (t1:Int),.int .i64 (tm:Int),.int .i64 ((mp:Int)+1)]:=rfl
  rw[hdv2] at HS
  have HSS:=Hi HS
  have p0:=C5.cell 0
  have p1:=C5.cell 1
  have p2:=C5.cell 2
  have p3:=C5.cell 3
  clear HS hdv2 C5 C4
  go_wp2_with fail
  refine HSS.out.mono ?_
  rintro e w6 ⟨rfl,hr6⟩
  go_wp2_with fail
  go_ret
  exact ⟨rfl,HFIN.out _ _ _ (by omega) F5.out hr6⟩
 ·simp only[if_true] at HI2 hl64' ⊢
  have hde:=hDD.out rfl
  go_wp2_with fail
  refine wp_region_scr [(true,0),(true,1),(true,2),(true,3),(true,4),(false,5)] [6] 6 (by kernel_rfl) (by decide +kernel) (fun w=>w.cell? ⟨M,9,none⟩=some (.pointer (some ⟨P.d.p,0,none⟩))) y9 ?_
  simp only[pickS,pickL,List.getElem?_toArray,List.getElem?_cons_zero,List.getElem?_cons_succ]
  iterate 5
   refine ⟨?_,Or.inl ⟨by rfl,fun W' hS'=>?_⟩,fun _ _ _ h=>h,?_⟩
   rotate_left
   ·go_simp
    with_reducible rfl
   simp only[Act.put,List.setIfInBounds_toArray,List.set_cons_zero,List.set_cons_succ]
  refine wpScr_step (fun K hK=>?_)
  go_simp
  go_at_call 95
  refine (HDA.out _).mono ?_
  rintro e w5 ⟨rfl,rfl⟩
  refine hK _ _ y9 ?_
  clear hK K
  have hdc:=rdec_any (H4.out.keep (Below.refl _ w4).drew).st.md (dOf old)
  rw[show Mp.decE _ (dOf old)=0 from hde,if_pos rfl] at hdc
  have HDC:=Hi hdc
  clear hdc
  refine wpSeqL_list _ _ _ (by simp) ?_
  simp only[List.map_cons,List.map_nil]
  go_wp2_with fail
  refine HDC.out.mono ?_
  rintro e w5 ⟨rfl,hm5,hf5⟩
  have hs5:=(H4.out.keep (Below.refl _ w4).drew).st.daSet hm5 hf5
  have hnM4:=H4.out.nM
  have H5:=Hi ((H4.out.keep (Below.refl _ w4).drew).store (hf5.has has_dn) hs5 (fun j hj _=>hj) hnM4 rfl)
  have hf5':=(Fr.refl (fun j=>P.has j∨j=M) w4).drew.trans (hf5.mono (fun j _ e=>(.inl (has_dn _ e):P.has j∨j=M)))
  have F5:=Hi (F4.out.trans hf5')
  have C5:=C4.fr hf5' (fun q=>q.elim hBP (fun e=>hMB e.symm))
  have hz5:=hf5'.size
  have HS:=rset27 _ _ M P _ H5.out ⟨id,t1,tm,mp⟩ hid ht1 htd (by show mp<16777216;omega) HI2.out hl64'.out
  have hdv2:(Dv.mk id t1 tm mp).v=.agg #[.int .i64 (id:Int),.int .i64 (t1:Int),.int .i64 (tm:Int),.int .i64 (mp:Int)]:=rfl
  rw[hdv2] at HS
  have HSS:=Hi HS
  have p0:=C5.cell 0
  have p1:=C5.cell 1
  have p2:=C5.cell 2
  have p3:=C5.cell 3
  clear HS hdv2 C5 C4 hm5 hf5 hs5 hf5' y9
  go_wp2_with fail
  refine HSS.out.mono ?_
  rintro e w6 ⟨rfl,hr6⟩
  go_wp2_with fail
  go_ret
  exact ⟨rfl,HFIN.out _ _ _ (by omega) F5.out hr6⟩
end
end Go.Proofs.YtplhdjdkobddnaaGreat
