/- MtN MtP -/
import Derived.Test.YtplhdjdkobddnaaGreatTr31
import Derived.Test.YtplhdjdkobddnaaGreatTr26
set_option linter.unusedVariables false
set_option maxRecDepth 100000
set_option maxHeartbeats 40000000
namespace Go.Proofs.YtplhdjdkobddnaaGreat
section
open Go.RowKit
attribute [local go_sem] Oper.semAt_some
theorem rcommit27_idle (W:World) (F:Nat→Prop) (M:Nat) (P:SP) (m:Mt) (h:MtIn W F M P m) (hd:m.done=false) :
  Calls Tryz.prog 44 #[.pointer (some ⟨M,0,none⟩)] W fun e w'=>e=.returned (.int .i64 0)∧W=w':=by
 obtain ⟨Ad,cd,Ao,co,Ap,cp,c1,-⟩:=h.cells
 rw[hd] at c1
 have x14:=c1.cell 14
 clear c1 h hd
 go_enter Tryz.func44,Tryz.ntmps44
 go_wp2_with fail
 go_ret
 exact ⟨rfl,rfl⟩
theorem rcommit27_ok (W:World) (F:Nat→Prop) (M:Nat) (P:SP) (m:Mt) (h:MtIn W F M P m) (nb:Nat) (hc:ComP m nb) :
  Calls Tryz.prog 44 #[.pointer (some ⟨M,0,none⟩)] W fun e w'=>e=.returned (.int .i64 0)∧∃P',P'.w=P.w∧P'.cw=P.cw∧MtIn w' (FN F W) M P' ((m.rel m.pe.length).comm nb)∧Fr (fun j=>P.has j∨j=M) W w':=by
 obtain ⟨Ad,cd,Ao,co,Ap,cp,c1,-⟩:=h.cells
 have hdn:=hc.dn
 have hsq:=hc.sq
 rw[hdn] at c1
 have x14:=c1.cell 14
 have x1:=c1.cell 1
 have d1:decide ((16777215:Int)≤(m.seq:Int))=false:=by rw[decide_eq_false_iff_not];omega
 have H0:=Hi h
 have HC:=Hi hc
 have HW0:=Hi (h.wide (F':=FN F W) (fun j hj _=>.inl hj) (fun j hj=>.inl (h.st.inF j hj)) (fun q=>q.elim h.nM (fun e=>by have:=h.lt;omega)))
 have hMl:=h.lt
 obtain ⟨n,hn⟩ :∃n,m.pe.length=n:=⟨_,rfl⟩
 have HN:=Hi hn
 have hpl:=h.pl
 rw[hn] at hpl
 clear c1 h hc hdn hn hsq
 go_enter Tryz.func44,Tryz.ntmps44
 go_wp2_with fail
 clear x14 x1
 go_loopg [] n (fun l wr=>∃k,l+k=n∧Hid (MtIn wr (FN F W) M P (m.rel k))∧Hid (Fr (fun j=>P.has j∨j=M) W wr))
 case atStart=>exact ⟨0,by omega,HW0,Fr.refl _ _⟩
 case round=>
  obtain ⟨k,hk,hin,hfr⟩:=hrel
  obtain ⟨Ad,cd,Ao,co,Ap,cp,c1,-,-,r3⟩:=hin.out.cells
  have x13:=c1.cell 13
  have hln:(m.rel k).pe.length=n - k:=by
   show (m.pe.drop k).length=_
   rw[List.length_drop,HN.out]
  rw[hln] at x13
  by_cases hlt:k<n
  ·have hkl:k<m.pe.length:=by rw[HN.out];exact hlt
   obtain ⟨b,off,rfl,hb,hcl⟩:=r3.reads (by rw[nv_length,hln];omega)
   have hpe:(m.rel k).pe[0]?.getD 0=m.pe[k]:=by
    show (m.pe.drop k)[0]?.getD 0=_
    rw[List.getElem?_drop,Nat.add_zero,List.getElem?_eq_getElem hkl]
    rfl
   have z0:=hcl 0 _ (nv_at _ 0 (by rw[hln];omega))
   rw[hpe,Nat.add_zero] at z0
   have hrl:=rrelease27_yes wr (FN F W) M P (m.rel k) hin.out m.pe[k] (by show _∈m.pe.drop k;rw[List.drop_eq_getElem_cons hkl];exact List.mem_cons_self) (HC.out.pd _ (List.getElem_mem hkl)) (HC.out.de k hkl)
   rw[rel_succ m HC.out.dn hkl] at hrl
   obtain ⟨d,hd⟩ :∃d,m.pe[k]=d:=⟨_,rfl⟩
   rw[hd] at z0 hrl
   have HRL:=Hi hrl
   have d2:(0:Int)<((n - k:Nat):Int):=by omega
   have d3:0<n - k:=by omega
   obtain ⟨nk,hnk⟩ :∃q,n - k=q:=⟨_,rfl⟩
   rw[hnk] at x13 d2 d3
   clear hrl c1 r3 hcl hln hpe hd hnk
   go_wp2_with fail
   refine HRL.out.mono ?_
   rintro e w1 ⟨rfl,hr⟩
   go_wp2_with fail
   obtain ⟨l,hl⟩ :∃l,gk=l+1:=⟨gk - 1,by omega⟩
   subst hl
   have hsz:=hfr.out.size
   have H1:=Hi (hr.si.wide (F':=FN F W) (fun j hj _=>hj.elim (fun q=>q) (fun q=>.inr (Nat.le_trans hsz q))) (fun j hj=>(hr.si.st.inF j hj).elim (fun q=>q) (fun q=>.inr (Nat.le_trans hsz q))) (HW0.out.nM))
   have F1:=Hi (hfr.out.trans hr.fr)
   go_roundg l
   case measure=>omega
   case rel=>exact ⟨k+1,by omega,H1,F1⟩
  ·have hkn:k=n:=by omega
   subst hkn
   obtain rfl:gk=0:=by omega
   have hc1:=HC.out.rel
   have hrk:m.rel k=m.rel m.pe.length:=by rw[HN.out]
   rw[hrk] at hin hln r3
   obtain ⟨m1,hm1⟩ :∃q,m.rel m.pe.length=q:=⟨_,rfl⟩
   have HM1:=Hi hm1
   rw[hm1] at hin hc1 hln
   have d9:((k - k:Nat):Int)=0:=by omega
   rw[show k - k=0 by omega] at x13
   obtain ⟨q1,q2,q3,q4,q5,q6,q7,q8,q9,q10,q11,q12,q13,q14,q15,q16,q17⟩:=hc1
   obtain ⟨_,_,_,_,_,_,c1',-⟩:=hin.out.cells
   have x9:=c1'.cell 9
   have y0:=hin.out.st.md.cs.cell 0
   have hsm:=hin.out.st.md.sm
   have HAW:=Hi (rareawords_any (some ⟨P.d.gn,0,none⟩) m1.S.da.now.length P.d.cn m1.S.da.now wr rfl (Reads.of_own hin.out.st.md.rn) (fun x hx=>by
    obtain ⟨i,hi,rfl⟩:=List.getElem_of_mem hx
    have:=hsm i
    unfold Mp.count at this
    rw[List.getElem?_eq_getElem hi] at this
    exact this) (by omega) (by omega))
   rw[q5] at y0 HAW
   clear c1 c1' r3 hm1 hln hsm hrk
   go_wp2_with fail
   refine HAW.out.mono ?_
   rintro e w1 ⟨ga,rfl,hoa,hb1⟩
   have H1:=Hi (hin.out.keep hb1)
   have HOA:=Hi hoa
   have hga:wr.heap.size≤ga∧ga<w1.heap.size:=⟨own_base hoa ga rfl,own_lt hoa ga rfl⟩
   have hPr:=hin.out.st.lt
   have hgaP:¬P.has ga:=fun q=>by have:=hPr _ q;omega
   have F1:=Hi (hfr.out.trans (Fr.of_below hb1))
   have hWr:=hfr.out.size
   have hW1:=F1.out.size
   have hM1:=H1.out.lt
   obtain ⟨ar,har⟩ :∃q,1 - m1.area=q:=⟨_,rfl⟩
   have har1:ar≤1:=by omega
   have hcap:=own_cap H1.out.st.wr
   have hwl:=H1.out.st.wl
   have hab:arB m1.data≤257:=by unfold arB;omega
   have hat:arAt m1.data ar+arB m1.data * 16≤m1.ws.length:=by
    unfold arAt
    have:ar=0∨ar=1:=by omega
    rcases this with rfl|rfl <;> omega
   have hao:=rareaof_any ⟨P.w,0,none⟩ m1.ws.length P.cw m1.data ar w1.drew q7 q6 har1 hat hcap hwl
   rw[Addr.add_lit,Nat.zero_add] at hao
   have HAO:=Hi hao
   have e1:IntKind.i64.wrap (1 - (m1.area:Int))=(ar:Int):=by rw[IntWalk.i64_in _ (by omega)];omega
   obtain ⟨_,_,_,_,_,_,c1,-⟩:=H1.out.cells
   have x0:=c1.cell 0
   have x3:=c1.cell 3
   have x5:=c1.cell 5
   obtain ⟨W2,hrun2,hown2,hfr2⟩:=copy_own (W:=w1.drew) (H1.out.keep (Below.refl _ w1).drew).st.wr rfl hoa (by rw[arW_len,q5]) (arAt m1.data ar) 0 (arB m1.data * 16) hat (by omega)
   have hw1:m1.w1=cpL m1.ws (arAt m1.data ar) (arW m1.S.da.now) 0 (arB m1.data * 16):=by unfold Mt.w1;rw[har]
   rw[←hw1] at hown2
   have hsm1:∀x∈m1.S.da.now,x≤65535:=fun x hx=>by
    obtain ⟨i,hi,rfl⟩:=List.getElem_of_mem hx
    have:=hin.out.st.md.sm i
    unfold Mp.count at this
    rw[List.getElem?_eq_getElem hi] at this
    exact this
   have hw1l:m1.w1.length=m1.ws.length:=by rw[hw1,cpL_length]
   have hs2:=(H1.out.keep (Below.refl _ w1).drew).st.words hown2 hfr2 hw1l (by rw[hw1];exact cpL_w64 H1.out.st.w64 (arW_w _ hsm1) _ _ _)
   have H2:=Hi ((H1.out.keep (Below.refl _ w1).drew).store (hfr2.mono (fun j _ e=>(.inr (.inr (.inr (.inl e))):P.has j))) hs2 (fun j hj _=>hj) HW0.out.nM hw1l)
   have F2:=Hi (F1.out.trans (((Fr.refl (fun j=>P.has j∨j=M) w1).drew).trans (hfr2.mono (fun j _ e=>.inl (.inr (.inr (.inr (.inl e))))))))
   have hgaw:¬ga=P.w:=fun e=>hgaP (.inr (.inr (.inr (.inl e))))
   have HOA2:=Hi (own_fr (own_keepU' hoa (Below.refl _ w1).drew) hfr2 (fun q hq e=>by simp[Value.ownBlock] at hq;omega))
   have HR2:=Hi hrun2
   have HW1:=Hi hw1
   have HSM:=Hi hsm1
   have hW2:=F2.out.size
   clear hao c1 hrun2 hown2 hfr2 hs2 hoa hw1 hsm1 y0 x9 x13
   go_wp2_with fail
   refine wp_region_scr [(true,0),(true,1),(true,2),(true,3),(true,4),(true,5),(true,6),(true,7),(true,8),(true,9),(true,10),(true,11),(true,12),(true,14),(false,13)] [15] 15 (by kernel_rfl) (by decide +kernel) (fun w=>w.cell? ⟨M,0,none⟩=some (.slice (some ⟨P.w,0,none⟩) m1.ws.length P.cw)∧w.cell? ⟨M,3,none⟩=some (.int .i64 (m1.data:Int))∧w.cell? ⟨M,5,none⟩=some (.int .i64 (m1.area:Int))) ⟨x0,x3,x5⟩ ?_
   simp only[pickS,pickL,List.getElem?_toArray,List.getElem?_cons_zero,List.getElem?_cons_succ]
   iterate 14
    refine ⟨?_,Or.inl ⟨by rfl,fun W' hS'=>?_⟩,fun _ _ _ h=>h,?_⟩
    rotate_left
    ·obtain ⟨y0,y3,y5⟩:=hS'
     go_simp
     with_reducible rfl
    simp only[Act.put,List.setIfInBounds_toArray,List.set_cons_zero,List.set_cons_succ]
   refine wpScr_step (fun K hK=>?_)
   go_simp
   go_at_call 16
   refine HAO.out.mono ?_
   rintro e w' ⟨rfl,rfl⟩
   refine hK _ _ ⟨x0,x3,x5⟩ ?_
   clear hK K
   refine wpSeqL_list _ _ _ (by simp) ?_
   simp only[List.map_cons,List.map_nil]
   refine wpList_copy_run _ rfl (.tmp 51) (.tmp 52) _ _ rfl (.slice (some ⟨P.w,arAt m1.data ar,none⟩) (arB m1.data * 16) (P.cw - arAt m1.data ar)) (.slice (some ⟨ga,0,none⟩) (arB m1.data * 16) (arB m1.data * 16)) (by simp[Act.eval]) (by simp[Act.eval]) _ _ (HR2.out _ _ _ _ (Nat.le_refl _)) ?_
   obtain ⟨_,_,_,_,_,_,c2,-⟩:=H2.out.cells
   have x10:=c2.cell 10
   clear c2 x0 x3 x5
   have HWR:=Hi (rwrite26_any W2 (FN F W) P _ _ H2.out.st q10 (by rw[hw1l];exact q11) q12)
   go_wp2_with fail
   refine HWR.out.mono ?_
   rintro e w3 ⟨rfl,mp,hmp,hs3,hf3⟩
   have hgaW2:ga<W2.heap.size:=by have:=own_lt HOA2.out ga rfl;exact this
   have hgamp:¬ga=mp:=by omega
   have hsP:StIn w3 (FN F W) { P with mp:=mp } _ _:=hs3.wide (F':=FN F W) (fun j hj _=>hj.elim (fun q=>q.1) (fun q=>.inr (by omega))) (fun j hj=>(hs3.inF j hj).elim (fun q=>q.1) (fun q=>.inr (by omega)))
   have hlenw:(m1.w2).length=m1.ws.length:=by unfold Mt.w2;rw[wrts_len,hw1l]
   have H3:=Hi (H2.out.storeP hf3 hsP ⟨rfl,rfl,rfl,rfl,rfl⟩ (fun j hj hl=>⟨hj.1,fun q=>by
    rcases q with q|q|q|q|q
    ·exact hj.2 (.inl q)
    ·exact hj.2 (.inr (.inl q))
    ·exact hj.2 (.inr (.inr (.inl q)))
    ·exact hj.2 (.inr (.inr (.inr (.inl q))))
    ·have:j=mp:=q;omega⟩) HW0.out.nM (wrts_len _ _ _))
   have F3:=Hi (F2.out.trans (hf3.mono (fun j _ e=>.inl e)))
   have HOA3:=Hi (own_fr HOA2.out hf3 (fun q hq e=>by simp[Value.ownBlock] at hq;subst hq;exact hgaP e))
   obtain ⟨m3,HM3,K3⟩ :∃q:Mt,Hid (q= { m1 with S:={ m1.S with ch:=fun _=>none,dk:=dkW m1.w2 },ws:=m1.w2 })∧Hid (MtIn w3 (FN F W) M { P with mp:=mp } q):=⟨_,Hi rfl,H3⟩
   clear H3
   have b0:m3.ws.length=m1.ws.length:=by rw[HM3.out];exact hlenw
   have bl3:m3.S.bl=m1.S.bl:=by rw[HM3.out]
   obtain ⟨_,_,_,_,_,_,c3,-⟩:=K3.out.cells
   have x8:=c3.cell 8
   have hal:=ralloc_any (K:=P.b) (m:=m1.S.bl) (by rw[←bl3];exact K3.out.st.mb)
   have hp1:m1.S.bl.pickN=nb:=by unfold Mp.pickN;rw[q13];rfl
   have hp2:m1.S.bl.pickE=0:=by unfold Mp.pickE;rw[q13];rfl
   have hp3:m1.S.bl.took=m1.S.bl.setN nb 1:=by unfold Mp.took;rw[q13]
   rw[hp1,hp2,hp3] at hal
   have HAL:=Hi hal
   have hs23:=hf3.size
   clear hal c3 hs3 hsP hf3 x10 hp1 hp2 hp3
   go_wp2_with fail
   refine HAL.out.mono ?_
   rintro e w4 ⟨rfl,hm4,hf4⟩
   have hs4:=K3.out.st.blSet hm4 hf4 (by rw[bl3];exact Mp.setN_len _ _ _)
   have H4:=Hi (K3.out.store (hf4.has (P:={ P with mp:=mp }) (fun j e=>.inr (.inl (.inr (.inl e))))) hs4 (fun j hj _=>hj) HW0.out.nM rfl)
   have F4:=Hi (F3.out.trans (hf4.mono (fun j _ e=>.inl (has_bn _ e))))
   have HOA4:=Hi (own_fr HOA3.out hf4 (fun q hq e=>by simp[Value.ownBlock] at hq;subst hq;exact hgaP (has_bn _ e)))
   obtain ⟨_,_,_,_,_,_,c4,-⟩:=H4.out.cells
   have x8b:=c4.cell 8
   have x6:w4.cell? ⟨M,6,none⟩=some (.int .i64 (m1.root:Int)):=(c4.cell 6).trans (by show some (Value.int .i64 (m3.root:Int))=_;rw[HM3.out])
   have hs34:=hf4.size
   have hdc:=rdec_any (K:=P.b) (m:=m1.S.bl.setN nb 1) (H4.out.keep (Below.refl _ w4).drew).st.mb m1.root
   rw[q14,if_pos rfl] at hdc
   have HDC:=Hi hdc
   clear hdc c4 hm4 hf4 hs4 x8
   go_wp2_with fail
   refine wp_region_scr [(true,0),(true,1),(true,2),(true,3),(true,4),(true,5),(true,6),(true,7)] [8] 8 (by kernel_rfl) (by decide +kernel) (fun w=>w.cell? ⟨M,8,none⟩=some (.pointer (some ⟨P.b.p,0,none⟩))∧w.cell? ⟨M,6,none⟩=some (.int .i64 (m1.root:Int))) ⟨x8b,x6⟩ ?_
   simp only[pickS,pickL,List.getElem?_toArray,List.getElem?_cons_zero,List.getElem?_cons_succ]
   iterate 8
    refine ⟨?_,Or.inl ⟨by rfl,fun W' hS'=>?_⟩,fun _ _ _ h=>h,?_⟩
    rotate_left
    ·obtain ⟨y8,y6⟩:=hS'
     go_simp
     with_reducible rfl
    simp only[Act.put,List.setIfInBounds_toArray,List.set_cons_zero,List.set_cons_succ]
   refine wpSeqL_list _ _ _ (by simp) ?_
   simp only[List.map_cons,List.map_nil]
   clear x8b x6
   go_wp2_with fail
   refine HDC.out.mono ?_
   rintro e w5 ⟨rfl,hm5,hf5⟩
   have hs5:=(H4.out.keep (Below.refl _ w4).drew).st.blSet hm5 hf5 (Mp.setN_len _ _ _)
   have H5:=Hi ((H4.out.keep (Below.refl _ w4).drew).store (hf5.has (P:={ P with mp:=mp }) (fun j e=>.inr (.inl (.inr (.inl e))))) hs5 (fun j hj _=>hj) HW0.out.nM rfl)
   have F5:=Hi (F4.out.trans (((Fr.refl (fun j=>P.has j∨j=M) w4).drew).trans (hf5.mono (fun j _ e=>.inl (has_bn _ e)))))
   have HOA5:=Hi (own_fr (own_keepU' HOA4.out (Below.refl _ w4).drew) hf5 (fun q hq e=>by simp[Value.ownBlock] at hq;subst hq;exact hgaP (has_bn _ e)))
   have hs45:w4.heap.size≤w5.heap.size:=hf5.size
   obtain ⟨_,_,_,_,_,_,c5,-⟩:=H5.out.cells
   have x1:w5.cell? ⟨M,1,none⟩=some (.int .i64 (m1.seq:Int)):=(c5.cell 1).trans (by show some (Value.int .i64 (m3.seq:Int))=_;rw[HM3.out])
   have x5:w5.cell? ⟨M,5,none⟩=some (.int .i64 (m1.area:Int)):=(c5.cell 5).trans (by show some (Value.int .i64 (m3.area:Int))=_;rw[HM3.out])
   have x6:w5.cell? ⟨M,6,none⟩=some (.int .i64 (m1.root:Int)):=(c5.cell 6).trans (by show some (Value.int .i64 (m3.root:Int))=_;rw[HM3.out])
   have f1:=c5.free 1
   have f5:=c5.free 5
   have f6:=c5.free 6
   have e2:IntKind.i64.wrap ((m1.seq:Int)+1)=(m1.seq:Int)+1:=IntWalk.i64_in _ (by omega)
   clear hm5 hf5 hs5 c5
   go_wp2_with fail
   go_region
   have eT:((m1.seq+1:Nat):Int)=(m1.seq:Int)+1:=rfl
   have h6:=((H5.out.set_root nb).set_area ar).set_seq (m1.seq+1)
   rw[eT] at h6
   have F6:=Hi ((((F5.out.set (b:=M) (i:=6) (.inl (.inr rfl)) (.int .i64 (nb:Int))).set (b:=M) (i:=5) (.inl (.inr rfl)) (.int .i64 (ar:Int))).set (b:=M) (i:=1) (.inl (.inr rfl)) (.int .i64 ((m1.seq:Int)+1))).drew)
   have H6:=Hi (h6.keep (Below.refl _ _).drew)
   have hgaM:¬ga=M:=by omega
   have f56:Fr (fun j=>j=M) w5 (((w5.setCell ⟨M,6,none⟩ (.int .i64 (nb:Int))).setCell ⟨M,5,none⟩ (.int .i64 (ar:Int))).setCell ⟨M,1,none⟩ (.int .i64 ((m1.seq:Int)+1))).drew:=((((Fr.refl (fun j=>j=M) w5).set (b:=M) (i:=6) (.inl rfl) (.int .i64 (nb:Int))).set (b:=M) (i:=5) (.inl rfl) (.int .i64 (ar:Int))).set (b:=M) (i:=1) (.inl rfl) (.int .i64 ((m1.seq:Int)+1))).drew
   have HOA6:=Hi (own_fr HOA5.out f56 (fun q hq e=>by simp[Value.ownBlock] at hq;omega))
   have hs56:=f56.size
   clear h6 x1 x5 x6 f1 f5 f6 f56
   generalize (((w5.setCell ⟨M,6,none⟩ (.int .i64 (nb:Int))).setCell ⟨M,5,none⟩ (.int .i64 (ar:Int))).setCell ⟨M,1,none⟩ (.int .i64 ((m1.seq:Int)+1))).drew=w6 at *
   obtain ⟨m6,HM6,K6⟩ :∃q:Mt,Hid (q= { m1 with S:={ m1.S with ch:=fun _=>none,dk:=dkW m1.w2,bl:=(m1.S.bl.setN nb 1).dec m1.root },ws:=m1.w2,seq:=m1.seq+1,area:=ar,root:=nb })∧Hid (MtIn w6 (FN F W) M { P with mp:=mp } q):=by
    rw[HM3.out] at H6
    exact ⟨_,Hi rfl,H6⟩
   clear H6 H5 H4 K3
   have b6:m6.ws.length=m1.ws.length:=by rw[HM6.out];exact hlenw
   obtain ⟨_,_,_,_,_,_,c6,-⟩:=K6.out.cells
   have x0:w6.cell? ⟨M,0,none⟩=some (.slice (some ⟨P.w,0,none⟩) m1.ws.length P.cw):=(c6.cell 0).trans (by show some (Value.slice _ m6.ws.length _)=_;rw[b6])
   have x1:w6.cell? ⟨M,1,none⟩=some (.int .i64 ((m1.seq:Int)+1)):=(c6.cell 1).trans (by show some (Value.int .i64 (m6.seq:Int))=_;rw[HM6.out];rfl)
   have x2:w6.cell? ⟨M,2,none⟩=some (.int .i64 (m1.time:Int)):=(c6.cell 2).trans (by show some (Value.int .i64 (m6.time:Int))=_;rw[HM6.out])
   have x3:w6.cell? ⟨M,3,none⟩=some (.int .i64 (m1.data:Int)):=(c6.cell 3).trans (by show some (Value.int .i64 (m6.data:Int))=_;rw[HM6.out])
   have x4:w6.cell? ⟨M,4,none⟩=some (.int .i64 (m1.chunk:Int)):=(c6.cell 4).trans (by show some (Value.int .i64 (m6.chunk:Int))=_;rw[HM6.out])
   have x5:w6.cell? ⟨M,5,none⟩=some (.int .i64 (ar:Int)):=(c6.cell 5).trans (by show some (Value.int .i64 (m6.area:Int))=_;rw[HM6.out])
   have x7:w6.cell? ⟨M,7,none⟩=some (.int .i64 (m1.tree:Int)):=(c6.cell 7).trans (by show some (Value.int .i64 (m6.tree:Int))=_;rw[HM6.out])
   have hnbl:=(Mp.pick_some q13).1
   have hbk:=rblock_any ⟨P.w,0,none⟩ m1.ws.length P.cw nb w6.drew (by omega) hcap hwl
   rw[Addr.add_lit,Nat.zero_add] at hbk
   have HBK:=Hi hbk
   have hrw:=rrootwords_any nb (m1.seq+1) m1.tree m1.time m1.data m1.chunk ar (some ⟨ga,0,none⟩) (arB m1.data * 16) (arB m1.data * 16) (arW m1.S.da.now) w6.drew (by rw[arW_len,q5]) (Reads.of_own (own_keepU' HOA6.out (Below.refl _ w6).drew)) (arW_w _ HSM.out) (by omega) (by omega) (by omega) q15 q16 (by omega) q17 (by omega)
   rw[eT] at hrw
   obtain ⟨rw7,hrw7⟩ :∃q,rtW nb (m1.seq+1) m1.tree m1.time m1.data m1.chunk ar (shortC (extendC 0 (arW m1.S.da.now)))=q:=⟨_,rfl⟩
   have hrwl:rw7.length=16:=by rw[←hrw7];exact (rt_facts _ _ _ _ _ _ _ _ (by omega)).1
   have hrt64:W64 rw7:=by rw[←hrw7];exact rtW_w _ _ _ _ _ _ _ _ (by omega) (by omega) (by omega) (by omega) (by omega) (by omega) (by have:=shortC_lt (extendC 0 (arW m1.S.da.now));omega)
   rw[hrw7] at hrw
   obtain ⟨v3,hv3⟩ :∃q,cpL m6.ws (nb * 16) rw7 0 16=q:=⟨_,rfl⟩
   have HV3:Hid (m1.w3 nb=v3):=by
    unfold Mt.w3
    rw[har,hrw7,←hv3,HM6.out]
    exact Hi rfl
   have hv3l:v3.length=m1.ws.length:=by rw[←hv3,cpL_length,b6]
   have HRW:=Hi hrw
   clear hrw hbk c6 hrw7
   go_wp2_with fail
   refine wp_region_scr [(true,0),(true,1),(true,2),(true,3),(true,4),(true,6),(true,7),(true,8),(true,9),(true,10),(true,11),(true,12),(true,13),(true,14),(true,15),(true,16),(true,17),(true,18),(true,19),(true,20),(true,21),(true,22),(true,23),(true,24),(true,25),(true,26),(true,27),(true,28),(true,29),(true,30),(true,31),(false,5)] [32,33] 32 (by kernel_rfl) (by decide +kernel) (fun w=>w.cell? ⟨M,0,none⟩=some (.slice (some ⟨P.w,0,none⟩) m1.ws.length P.cw)∧w.cell? ⟨M,1,none⟩=some (.int .i64 ((m1.seq:Int)+1))∧w.cell? ⟨M,2,none⟩=some (.int .i64 (m1.time:Int))∧w.cell? ⟨M,3,none⟩=some (.int .i64 (m1.data:Int))∧w.cell? ⟨M,4,none⟩=some (.int .i64 (m1.chunk:Int))∧w.cell? ⟨M,5,none⟩=some (.int .i64 (ar:Int))∧w.cell? ⟨M,7,none⟩=some (.int .i64 (m1.tree:Int))) ⟨x0,x1,x2,x3,x4,x5,x7⟩ ?_
   simp only[pickS,pickL,List.getElem?_toArray,List.getElem?_cons_zero,List.getElem?_cons_succ]
   iterate 31
    refine ⟨?_,Or.inl ⟨by rfl,fun W' hS'=>?_⟩,fun _ _ _ h=>h,?_⟩
    rotate_left
    ·obtain ⟨y0,y1,y2,y3,y4,y5,y7⟩:=hS'
     go_simp
     with_reducible rfl
    simp only[Act.put,List.setIfInBounds_toArray,List.set_cons_zero,List.set_cons_succ]
   refine wpScr_step (fun K hK=>?_)
   go_simp
   go_at_call 22
   refine HBK.out.mono ?_
   rintro e w' ⟨rfl,rfl⟩
   refine hK _ _ ⟨x0,x1,x2,x3,x4,x5,x7⟩ ?_
   clear hK K
   refine wpSeqL_list _ _ _ (by simp) ?_
   simp only[List.map_cons,List.map_nil]
   clear x0 x1 x2 x3 x4 x5 x7
   go_wp2_with fail
   refine HRW.out.mono ?_
   rintro e w7 ⟨gr,rfl,hor,hb7⟩
   have hs67:w6.heap.size≤w7.heap.size:=hb7.size
   have hgr:w6.heap.size≤gr∧gr<w7.heap.size:=⟨own_base hor gr rfl,own_lt hor gr rfl⟩
   have h7:=(K6.out.keep (Below.refl _ w6).drew).keep hb7
   have h7w:=h7.st.wr
   rw[b6] at h7w
   obtain ⟨W8,hrun8,hown8,hfr8⟩:=copy_own (W:=w7) h7w b6 hor hrwl (nb * 16) 0 16 (by omega) (by omega)
   rw[hv3] at hown8
   have h64v3:W64 v3:=by rw[←hv3];exact cpL_w64 h7.st.w64 hrt64 _ _ _
   have h8:=h7.words b6 hown8 hfr8 hv3l h64v3
   obtain ⟨m8,HM8,K8⟩ :∃q:Mt,Hid (q= { m6 with S:={ m6.S with dk:=dkW v3 },ws:=v3 })∧Hid (MtIn W8 (FN F W) M { P with mp:=mp } q):=⟨_,Hi rfl,Hi h8⟩
   have F8:=Hi ((F6.out.trans (((Fr.refl (fun j=>P.has j∨j=M) w6).drew).trans (Fr.of_below hb7))).trans (hfr8.mono (fun j _ e=>.inl (.inr (.inr (.inr (.inl e)))))))
   have HR8:=Hi hrun8
   have hs78:=hfr8.size
   clear hrun8 hown8 hfr8 h8 h7 h7w hor hb7 K6 HOA6 HOA5 HOA4 HOA3 HOA2
   go_wp2_with (refine wpList_copy_run _ rfl (.tmp 104) (.tmp 131) _ _ rfl (.slice (some ⟨P.w,nb * 16,none⟩) 16 (P.cw - nb * 16)) (.slice (some ⟨gr,0,none⟩) 16 16) (by simp[Act.eval]) (by simp[Act.eval]) _ _ (HR8.out _ _ _ _ (Nat.le_refl _)) ?_)
   have b8:m8.ws=v3:=by rw[HM8.out]
   have b8l:m8.ws.length=m1.ws.length:=by rw[b8,hv3l]
   obtain ⟨_,_,_,_,_,_,c8,-⟩:=K8.out.cells
   have x0:W8.cell? ⟨M,0,none⟩=some (.slice (some ⟨P.w,0,none⟩) m1.ws.length P.cw):=(c8.cell 0).trans (by show some (Value.slice _ m8.ws.length _)=_;rw[b8l])
   have x1:W8.cell? ⟨M,1,none⟩=some (.int .i64 ((m1.seq:Int)+1)):=(c8.cell 1).trans (by show some (Value.int .i64 (m8.seq:Int))=_;rw[HM8.out,HM6.out];rfl)
   have hcw:=rword27_any nb (m1.seq+1) W8.drew
   rw[eT] at hcw
   have hcl:=cwW_lt nb (m1.seq+1)
   obtain ⟨cwv,hcwv⟩ :∃q,cwW nb (m1.seq+1)=q:=⟨_,rfl⟩
   have HW4:Hid (m1.w4 nb=v3.set 0 cwv):=by unfold Mt.w4;rw[hcwv,HV3.out];exact Hi rfl
   rw[hcwv] at hcw hcl
   have HCW:=Hi hcw
   clear hcwv
   have hM8:=K8.out.lt
   have d11:0<m1.ws.length:=by omega
   clear hcw c8
   simp only[Act.put,List.setIfInBounds_toArray,List.set_cons_zero,List.set_cons_succ]
   refine wp_region_scr [(true,0),(true,1),(true,2),(true,3),(true,4),(true,5),(true,6),(true,7),(true,8),(false,9)] [10,11] 10 (by kernel_rfl) (by decide +kernel) (fun w=>w.cell? ⟨M,0,none⟩=some (.slice (some ⟨P.w,0,none⟩) m1.ws.length P.cw)∧w.cell? ⟨M,1,none⟩=some (.int .i64 ((m1.seq:Int)+1))) ⟨x0,x1⟩ ?_
   simp only[pickS,pickL,List.getElem?_toArray,List.getElem?_cons_zero,List.getElem?_cons_succ]
   iterate 9
    refine ⟨?_,Or.inl ⟨by rfl,fun W' hS'=>?_⟩,fun _ _ _ h=>h,?_⟩
    rotate_left
    ·obtain ⟨y0,y1⟩:=hS'
     go_simp
     with_reducible rfl
    simp only[Act.put,List.setIfInBounds_toArray,List.set_cons_zero,List.set_cons_succ]
   refine wpScr_step (fun K hK=>?_)
   go_simp
   go_at_call 55
   refine HCW.out.mono ?_
   rintro e w9 ⟨rfl,hb9⟩
   refine hK _ _ ⟨(hb9.cell (p:=⟨M,0,none⟩) hM8).trans x0,(hb9.cell (p:=⟨M,1,none⟩) hM8).trans x1⟩ ?_
   clear hK K
   refine wpSeqL_list _ _ _ (by simp) ?_
   simp only[List.map_cons,List.map_nil]
   have hs89:W8.heap.size≤w9.heap.size:=hb9.size
   have h9:=(K8.out.keep (Below.refl _ W8).drew).keep hb9
   have hk0:=h9.wordAt b8l d11
   have hf0:=h9.st.wr.frozenAt 0
   have h10:=h9.word (i:=0) b8l d11 hcl
   rw[b8] at h10
   have hfr10:=fr_set w9 P.w 0 (.int .u64 (cwv:Int))
   have F10:=Hi ((F8.out.trans (((Fr.refl (fun j=>P.has j∨j=M) W8).drew).trans (Fr.of_below hb9))).trans (hfr10.mono (fun j _ e=>.inl (.inr (.inr (.inr (.inl e)))))))
   obtain ⟨m10,HM10,K10⟩ :∃q:Mt,Hid (q= { m8 with S:={ m8.S with dk:=dkW (v3.set 0 cwv) },ws:=v3.set 0 cwv })∧Hid (MtIn (w9.setCell ⟨P.w,0,none⟩ (.int .u64 (cwv:Int))) (FN F W) M { P with mp:=mp } q):=⟨_,Hi rfl,Hi h10⟩
   have hs910:=hfr10.size
   clear hfr10 h10 h9 hb9 x0 x1 K8
   have bb1:m10.S.bl=(m1.S.bl.setN nb 1).dec m1.root:=by rw[HM10.out,HM8.out,HM6.out]
   have bd1:m10.S.da=m1.S.da:=by rw[HM10.out,HM8.out,HM6.out]
   obtain ⟨_,_,_,_,_,_,c10,-⟩:=K10.out.cells
   have y8:=c10.cell 8
   have hcm:=rcommit_any24 K10.out.st.mb (by rw[bb1];show 1≤((m1.S.bl.setN nb 1).dec m1.root).now.length;rw[show ((m1.S.bl.setN nb 1).dec m1.root).now.length=m1.S.bl.now.length from (Mp.setN_len _ _ _).trans (Mp.setN_len _ _ _)];omega)
   have HCM:=Hi hcm
   clear hcm c10
   go_wp2_with fail
   refine HCM.out.mono ?_
   rintro e w11 ⟨rfl,g1,cc1,hg1,hg1l,hm11,hf11⟩
   have hs11:=K10.out.st.blComm hm11 hf11 hg1
   have hg1W:W.heap.size≤g1:=by simp at hg1;omega
   have hs11w:=hs11.wide (F':=FN F W) (fun j hj _=>hj.elim id (fun e=>.inr (by omega))) (fun j hj=>(hs11.inF j hj).elim id (fun e=>.inr (by omega)))
   have hg1M:(w9.setCell ⟨P.w,0,none⟩ (.int .u64 (cwv:Int))).heap.size≤g1:=hg1
   have h11:=K10.out.storeP (hf11.mono (fun j _ e=>(.inr (.inl (.inl e)):({ P with mp:=mp }:SP).has j))) hs11w ⟨rfl,rfl,rfl,rfl,rfl⟩ (fun j hj hl=>⟨hj.1,fun q=>by
    rcases q with q|(q|q|q)|q
    ·exact hj.2 (.inl q)
    ·exact hj.2 (.inr (.inl (.inl q)))
    ·exact hj.2 (.inr (.inl (.inr (.inl q))))
    ·have:j=g1:=q
     omega
    ·exact hj.2 (.inr (.inr q))⟩) HW0.out.nM rfl
   obtain ⟨m11,HM11,K11⟩ :∃q:Mt,Hid (q= { m10 with S:={ m10.S with bl:=⟨m10.S.bl.now,m10.S.bl.now⟩ } })∧Hid (MtIn w11 (FN F W) M { P with mp:=mp,b:={ P.b with go:=g1,co:=cc1 } } q):=⟨_,Hi rfl,Hi h11⟩
   have F11:=Hi (F10.out.trans (hf11.mono (fun j _ e=>.inl (.inr (.inl (.inl e))))))
   have hs1011:=hf11.size
   clear hs11 hs11w h11 hm11 hf11 y8 K10
   have bd2:m11.S.da=m1.S.da:=by rw[HM11.out];exact bd1
   obtain ⟨_,_,_,_,_,_,c11,-⟩:=K11.out.cells
   have y9:=c11.cell 9
   have hcm:=rcommit_any24 K11.out.st.md (by rw[bd2,q5];omega)
   have HCM:=Hi hcm
   clear hcm c11
   go_wp2_with fail
   refine HCM.out.mono ?_
   rintro e w12 ⟨rfl,g2,cc2,hg2,hg2l,hm12,hf12⟩
   have hs12:=K11.out.st.daComm hm12 hf12 hg2
   have hg2W:W.heap.size≤g2:=by have:=F11.out.size;omega
   have hs12w:=hs12.wide (F':=FN F W) (fun j hj _=>hj.elim id (fun e=>.inr (by omega))) (fun j hj=>(hs12.inF j hj).elim id (fun e=>.inr (by omega)))
   have h12:=K11.out.storeP (hf12.mono (fun j _ e=>(.inr (.inr (.inl (.inl e))):({ P with mp:=mp,b:={ P.b with go:=g1,co:=cc1 } }:SP).has j))) hs12w ⟨rfl,rfl,rfl,rfl,rfl⟩ (fun j hj hl=>⟨hj.1,fun q=>by
    rcases q with q|q|(q|q|q)|q
    ·exact hj.2 (.inl q)
    ·exact hj.2 (.inr (.inl q))
    ·exact hj.2 (.inr (.inr (.inl (.inl q))))
    ·exact hj.2 (.inr (.inr (.inl (.inr (.inl q)))))
    ·have:j=g2:=q
     omega
    ·exact hj.2 (.inr (.inr (.inr q)))⟩) HW0.out.nM rfl
   obtain ⟨m12,HM12,K12⟩ :∃q:Mt,Hid (q= { m11 with S:={ m11.S with da:=⟨m11.S.da.now,m11.S.da.now⟩ } })∧Hid (MtIn w12 (FN F W) M { P with mp:=mp,b:={ P.b with go:=g1,co:=cc1 },d:={ P.d with go:=g2,co:=cc2 } } q):=⟨_,Hi rfl,Hi h12⟩
   have F12:=Hi (F11.out.trans (hf12.mono (fun j _ e=>.inl (.inr (.inr (.inl (.inl e)))))))
   clear hs12 hs12w h12 hm12 hf12 y9 K11
   obtain ⟨Ad2,cd2,_,_,_,_,c12,hrd,-,-⟩:=K12.out.cells
   have y10:=c12.cell 10
   have y1:w12.cell? ⟨M,1,none⟩=some (.int .i64 ((m1.seq:Int)+1)):=(c12.cell 1).trans (by show some (Value.int .i64 (m12.seq:Int))=_;rw[HM12.out,HM11.out,HM10.out,HM8.out,HM6.out];rfl)
   have k12:=K12.out.keep (Below.refl _ w12).drew
   have hsc:=k12.st.cs
   have z3:=hsc.cell 3
   have zf:=hsc.free 3
   have e3:IntKind.i64.wrap ((m1.seq:Int)+1+1)=(m1.seq:Int)+2:=by rw[IntWalk.i64_in _ (by omega)];omega
   have hst13:=k12.st.setSeq (x:=m1.seq+2) (by omega)
   have eU:((m1.seq+2:Nat):Int)=(m1.seq:Int)+2:=rfl
   rw[eU] at hst13
   have f13:=fr_set w12.drew P.s 3 (.int .i64 ((m1.seq:Int)+2))
   have h13:=k12.storeP (f13.mono (fun j _ e=>(.inl e:({ P with mp:=mp,b:={ P.b with go:=g1,co:=cc1 },d:={ P.d with go:=g2,co:=cc2 } }:SP).has j))) hst13 ⟨rfl,rfl,rfl,rfl,rfl⟩ (fun j hj _=>hj) HW0.out.nM rfl
   obtain ⟨m13,HM13,K13⟩ :∃q:Mt,Hid (q= { m12 with S:={ m12.S with seq:=m1.seq+2 } })∧Hid (MtIn (w12.drew.setCell ⟨P.s,3,none⟩ (.int .i64 ((m1.seq:Int)+2))) (FN F W) M { P with mp:=mp,b:={ P.b with go:=g1,co:=cc1 },d:={ P.d with go:=g2,co:=cc2 } } q):=⟨_,Hi rfl,Hi h13⟩
   have F13:=Hi ((F12.out.trans ((Fr.refl (fun j=>P.has j∨j=M) w12).drew)).trans (f13.mono (fun j _ e=>.inl (.inl e))))
   obtain ⟨Ad3,cd3,Ao3,co3,Ap3,cp3,c13,hrd3,-,-⟩:=K13.out.cells
   have v11:=c12.cell 11
   have v12:=c12.cell 12
   have v14:=c12.cell 14
   have f12:=c12.free 12
   have f14:=c12.free 14
   have hdv3:m13.dv=m12.dv:=by rw[HM13.out]
   have HRD3:=Hi (hrd.fr (dvv_ne _) (((Fr.refl (fun j=>j=P.s) w12).drew).trans f13) (fun j hj e=>hj.2 (.inl e)))
   have hml:=Hi K13.out.dl
   have hPM:¬P.s=M:=fun e=>K12.out.nP (.inl e.symm)
   have hMP:¬M=P.s:=fun e=>hPM e.symm
   have e4:IntKind.i64.wrap ((m1.seq:Int)+2)=(m1.seq:Int)+2:=IntWalk.i64_in _ (by omega)
   clear eU eT
   clear K12 F12 k12 h13 c13 hrd3
   clear f13 hst13 c12 hsc bb1 bd1 bd2 b8 b8l b6 b0 bl3
   go_wp2_with fail
   refine wp_region_scr [(true,0),(true,1),(true,2),(true,3),(true,4),(true,5),(true,6),(true,7),(true,8)] [9,10,11] 9 (by kernel_rfl) (by decide +kernel) (fun w=>w.cell? ⟨M,10,none⟩=some (.pointer (some ⟨P.s,0,none⟩))∧w.cell? ⟨M,1,none⟩=some (.int .i64 ((m1.seq:Int)+1))) ⟨y10,y1⟩ ?_
   simp only[pickS,pickL,List.getElem?_toArray,List.getElem?_cons_zero,List.getElem?_cons_succ]
   iterate 9
    refine ⟨?_,Or.inl ⟨by rfl,fun W' hS'=>?_⟩,fun _ _ _ h=>h,?_⟩
    rotate_left
    ·obtain ⟨y0,y1⟩:=hS'
     go_simp
     with_reducible rfl
    simp only[Act.put,List.setIfInBounds_toArray,List.set_cons_zero,List.set_cons_succ]
   refine wpSeqL_list _ _ _ (by simp) ?_
   simp only[List.map_cons,List.map_nil]
   clear y10 y1
   go_wp2_with fail
   go_ret
   have hs1:=K13.out.set_od (L:=m13.dv) (v:=.slice Ad2 m12.dv.length cd2) (by rw[hdv3];exact HRD3.out) hml.out
   have hs2:=hs1.set_done false
   refine ⟨rfl,{ P with mp:=mp,b:={ P.b with go:=g1,co:=cc1 },d:={ P.d with go:=g2,co:=cc2 } },rfl,rfl,?_,(F13.out.set (b:=M) (i:=12) (.inl (.inr rfl)) _).set (b:=M) (i:=14) (.inl (.inr rfl)) _⟩
   rw[show (m.rel m.pe.length).comm nb=m1.commW nb (v3.set 0 cwv) from by rw[HM1.out];unfold Mt.comm;rw[HW4.out]]
   refine Eq.mp (congrArg (MtIn _ (FN F W) M _) ?_) hs2
   unfold Mt.commW
   rw[har,HM13.out,HM12.out,HM11.out,HM10.out,HM8.out,HM6.out]
end
section
open Go.RowKit
structure NewW (ws:List Nat) (data chunk:Nat):Prop where
 d1:1≤data
 d2:data≤16384
 c1:1≤chunk
 c2:chunk≤64
 w64:W64 ws
 sz:(2 * arB data+49) * 16≤ws.length
 wl:ws.length≤1000000
 cw:cwOk (ws[0]?.getD 0)=true
 rt:ws[0]?.getD 0 % 1048576=2 * arB data+2
 sq:ws[0]?.getD 0 / 1048576 % 16777216=0
 rb:blkW ws (2 * arB data+2)=rtW (2 * arB data+2) 0 (2 * arB data+1) 0 data chunk 0 (shortC (extendC 0 (arOf ws data 0)))
 lf:decE (blkW ws (2 * arB data+1)) ((2 * arB data+1:Nat):Int)=0
 l1:decLv (blkW ws (2 * arB data+1)) ((2 * arB data+1:Nat):Int)=0
 l2:decSq (blkW ws (2 * arB data+1)) ((2 * arB data+1:Nat):Int)=0
 l3:decL (blkW ws (2 * arB data+1)) ((2 * arB data+1:Nat):Int)= []
 ct:ctsN (arOf ws data 0) data=List.replicate data 0
 bb:2 * arB data+3≤blN ws.length
def onesTo (nb k:Nat):List Nat:=(List.range nb).map (fun i=>if i<k then 1 else 0)
theorem onesTo_len (nb k:Nat):(onesTo nb k).length=nb:=by simp[onesTo]
theorem onesTo_zero (nb:Nat):onesTo nb 0=List.replicate nb 0:=by
 unfold onesTo
 apply List.ext_getElem (by simp)
 intro i h1 h2
 simp
theorem onesTo_set (nb k:Nat):(onesTo nb k).set k 1=onesTo nb (k+1):=by
 unfold onesTo
 apply List.ext_getElem (by simp)
 intro i h1 h2
 rw[List.getElem_set]
 simp only[List.getElem_map,List.getElem_range]
 by_cases h0:k=i
 ·rw[if_pos h0,if_pos (by omega)]
 ·rw[if_neg h0]
  by_cases h:i<k
  ·rw[if_pos h,if_pos (by omega)]
  ·rw[if_neg h,if_neg (by omega)]
theorem onesTo_at (nb k i:Nat) (h:i<nb):(onesTo nb k)[i]?.getD 0=if i<k then 1 else 0:=by
 unfold onesTo
 rw[List.getElem?_map,List.getElem?_range h]
 rfl
theorem onesTo_fin (nb k:Nat) (h:k+1<nb):((onesTo nb k).set (k+1) 1).set k ((((onesTo nb k).set (k+1) 1)[k]?.getD 0)+1)=onesTo nb (k+2):=by
 rw[List.getElem?_set,if_neg (by omega),onesTo_at nb k k (by omega),if_neg (by omega),List.set_comm _ _ (by omega),onesTo_set,onesTo_set]
theorem onesTo_le (nb k:Nat):∀x∈onesTo nb k,x≤1:=by
 intro x hx
 unfold onesTo at hx
 obtain ⟨i,_,rfl⟩:=List.mem_map.1 hx
 split <;> omega
def Mt.new (ws:List Nat) (data chunk:Nat):Mt:=⟨⟨dkW ws,⟨onesTo (blN ws.length) (2 * arB data+3),onesTo (blN ws.length) (2 * arB data+3)⟩,⟨List.replicate data 0,List.replicate data 0⟩,1,fun _=>none⟩,ws,0,0,data,chunk,0,2 * arB data+2,2 * arB data+1,[],[],[],false⟩
theorem newMt_in (w:World) (W0 g c data chunk M mp b2:Nat) (K1 K2:MP) (ws:List Nat)
  (hc:Cs w M 82 #[.slice (some ⟨g,0,none⟩) ws.length c,.int .i64 0,.int .i64 0,.int .i64 (data:Int),.int .i64 (chunk:Int),.int .i64 0,.int .i64 (2 * ((arB data:Nat):Int)+2),.int .i64 (2 * ((arB data:Nat):Int)+1),.pointer (some ⟨K1.p,0,none⟩),.pointer (some ⟨K2.p,0,none⟩),.pointer (some ⟨mp+1,0,none⟩),.slice none 0 0,.slice none 0 0,.slice none 0 0,.bool false])
  (hs:Cs w (mp+1) 152 #[.slice (some ⟨g,0,none⟩) ws.length c,.pointer (some ⟨K1.p,0,none⟩),.pointer (some ⟨K2.p,0,none⟩),.int .i64 ((1:Nat):Int),.map (some mp)])
  (h1:MapIn w K1 ⟨onesTo (blN ws.length) (2 * arB data+3),onesTo (blN ws.length) (2 * arB data+3)⟩) (h2:MapIn w K2 ⟨List.replicate data 0,List.replicate data 0⟩) (hem:Em w mp)
  (hw:w.ownsRow 0 39 1 (.slice (some ⟨g,0,none⟩) ws.length c) ws.length (uv ws)) (h64:W64 ws) (hwl:ws.length≤1000000) (o1:g<W0) (o2:W0≤M)
  (o3:∀j,K1.has j→M<j∧j<b2) (o4:∀j,K2.has j→M<j∧b2≤j) (o5:M<mp) :
  MtIn w (fun j=>j=g∨(W0≤j∧j≠M)) M ⟨mp+1,K1,K2,g,c,mp⟩ (Mt.new ws data chunk):=by
 refine ⟨⟨_,_,_,hc,RowO.nil _ _,RowO.nil _ _,RowO.nil _ _⟩,?_,fun q=>by rcases q with q|q <;> omega,Nat.zero_le _,Nat.zero_le _,Nat.zero_le _⟩
 refine ⟨hs,h1,h2,hw,h64,hwl,rfl,⟨0,_,hem,Nat.zero_le _,fun _ _=>rfl,fun x=>⟨(fun b _ nd h=>by cases h),fun _=>rfl⟩⟩,fun j hj=>?_,fun j hj hk=>?_,by show (1:Nat)≤16777216;omega⟩
 ·rcases hj with q|q|q|q|q
  ·have:j=mp+1:=q
   exact .inr (by omega)
  ·have:=o3 j q
   exact .inr (by omega)
  ·have:=o4 j q
   exact .inr (by omega)
  ·have:j=g:=q
   exact .inl this
  ·have:j=mp:=q
   exact .inr (by omega)
 ·have h3:=o3 j hj
  have h4:=o4 j hk
  omega
end
end Go.Proofs.YtplhdjdkobddnaaGreat
