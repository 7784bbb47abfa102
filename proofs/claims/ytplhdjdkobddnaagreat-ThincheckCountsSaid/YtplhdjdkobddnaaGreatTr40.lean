/- StT OkC -/
import Derived.Test.YtplhdjdkobddnaaGreatTr39
set_option linter.unusedVariables false
set_option maxRecDepth 100000
set_option maxHeartbeats 40000000
namespace Go.Proofs.YtplhdjdkobddnaaGreat
section
open Go.RowKit
attribute [local go_sem] Oper.semAt_some
section
variable {S:St} {Z:Nat→Bool} {rs pd:List Nat} {G:Gh} {b:Nat} {n:Nd} {k:Bool}
theorem drop_head (h:Inv S Z (b :: rs) pd G) (hn:S.nd Z b=some n) (hK:G.K b=k) (hc1:S.bl.count b=1) :
  Inv { S with bl:=S.bl.dec b } Z (kids n++rs) (dats k n++pd) G∧(∀u,St.nd { S with bl:=S.bl.dec b } Z u=S.nd (Zi Z b) u):=by
 obtain ⟨q1,q2,q3⟩:=nd_count hn
 have h2:=h.out (S':=S) hn hc1 rfl rfl (.inl rfl) (fun u _ _=>rfl) (fun e=>absurd rfl e) hc1 (fun _=>rfl) rfl rfl
 rw[hK] at h2
 obtain ⟨a1,a2,a3,a4⟩:=h2.give q2 hc1
 exact ⟨a1,a4⟩
theorem decs_take (h:Inv S Z rs (dats k n++pd) G) {i d:Nat} (hd:(dats k n)[i]? =some d):(S.da.decs ((dats k n).take i)).decE d=0:=by
 have h1:Inv S Z rs ((dats k n).take i++((dats k n).drop i++pd)) G:=h.perm (fun _=>rfl) (fun u=>by
  rw[←List.append_assoc,List.take_append_drop])
 have h2:=h1.decs
 have h3:=h2.dt d
 have hm:d∈(dats k n).drop i:=by
  have:=List.getElem?_drop (xs:=dats k n) (i:=i) (j:=0)
  rw[Nat.add_zero,hd] at this
  exact List.mem_of_getElem? this
 have h4:0<((dats k n).drop i++pd).count d:=List.count_pos_iff.2 (List.mem_append_left _ hm)
 have h5:(S.da.decs ((dats k n).take i)).count d≠0:=by
  change (S.da.decs ((dats k n).take i)).count d=_ at h3
  omega
 unfold Mp.decE
 rw[if_neg (by have:=Mp.lt_of_count h5;omega),if_neg h5]
theorem decs_snoc (m:Mp) (l:List Nat) (x:Nat):m.decs (l++ [x])=(m.decs l).dec x:=by
 unfold Mp.decs
 rw[List.foldl_append]
 rfl
end
theorem rdrop26_any (P:SP) (ws:List Nat) (Z:Nat→Bool) (pd:List Nat) (G:Gh) (k:Bool):∀(l:Nat) (F:Nat→Prop) (W:World) (S:St) (rs:List Nat) (b:Nat) (n:Nd),StIn W F P S ws→Inv S Z (b :: rs) pd G→S.nd Z b=some n→n.lv=l→G.K b=k→
  Calls Tryz.prog 87 #[.pointer (some ⟨P.s,0,none⟩),.int .i64 (b:Int),.bool k] W fun e w'=>e=.returned (.int .i64 0)∧∃S',St.drop k l S b=some S'∧StIn w' F P S' ws∧Fr P.has W w':=by
 intro l
 induction l with
 |zero=>
  intro F W S rs b n h hI hn hl hK
  have H:=Hi (h.wide (F':=fun j=>F j∧j<W.heap.size) (fun j h1 h2=>⟨h1,h2⟩) (fun j hj=>⟨h.inF j hj,h.lt j hj⟩))
  have HF:=Hi (show∀j,P.has j→F j from h.inF)
  obtain ⟨q1,q2,q3⟩:=nd_count hn
  have hbl:=nd_lt hn
  have hdE:S.bl.decE b=0:=by unfold Mp.decE;rw[if_neg (by omega),if_neg q1]
  have hd:=rdec_any H.out.mb b
  rw[hdE,if_pos rfl] at hd
  have hlenb:=h.mb.lt
  have hsmb:=h.mb.sm b
  have x1:W.cell? ⟨P.s,1,none⟩=some (.pointer (some ⟨P.b.p,0,none⟩)):=h.cs.cell 1
  obtain ⟨cc,hcc⟩ :∃cc,S.bl.count b=cc:=⟨_,rfl⟩
  have HI:=Hi hI
  have HN:=Hi hn
  have HL:=Hi hl
  have HK:=Hi hK
  have HCC:=Hi hcc
  have HQ3:=Hi q3
  have hcc0:cc≠0:=by omega
  have hdrop:Hid (St.drop k 0 S b=if 1<cc then some { S with bl:=S.bl.dec b } else some { S with bl:=S.bl.dec b,da:=S.da.decs (dats k n) }):=by
   show _=_
   unfold St.drop
   rw[hcc,q3]
  clear h hI hn hl hK hdE hcc q1 q3
  go_enter Tryz.func87,Tryz.ntmps87
  go_wp2_with fail
  refine hd.mono ?_
  rintro e w1 ⟨rfl,hm1,hf1⟩
  have HS1:=Hi (H.out.blSet hm1 hf1 (Mp.setN_len _ _ _))
  have F1:=Hi (hf1.has (P:=P) has_bn)
  have hct:=rcount_any hm1 b
  have hcd:(S.bl.dec b).count b=cc - 1:=by rw[Mp.count_dec hbl,if_pos rfl,HCC.out]
  rw[hcd] at hct
  have x1:w1.cell? ⟨P.s,1,none⟩=some (.pointer (some ⟨P.b.p,0,none⟩)):=HS1.out.cs.cell 1
  clear hd hm1 hf1 hcd
  go_wp2_with fail
  refine hct.mono ?_
  rintro e w2 ⟨rfl,rfl⟩
  by_cases hc1:1<cc
  ·have d1:(0:Int)<((cc - 1:Nat):Int):=by omega
   clear hct
   go_wp2_with fail
   go_ret
   have hdr:=hdrop.out
   rw[if_pos hc1] at hdr
   exact ⟨rfl,_,hdr,HS1.out.wide (fun j hj _=>hj.1) HF.out,F1.out⟩
  ·have d1:¬(0:Int)<((cc - 1:Nat):Int):=by omega
   have hdr:=hdrop.out
   rw[if_neg hc1] at hdr
   have HDR:=Hi hdr
   obtain ⟨a1,a4⟩:=drop_head HI.out HN.out HK.out (by rw[HCC.out];omega)
   have hk0:kids n= []:=by unfold kids;rw[if_pos HL.out]
   rw[hk0,List.nil_append] at a1
   have HA1:=Hi a1
   have hldc:=rload26_any w1 _ P { S with bl:=S.bl.dec b } ws HS1.out b (by show b<(S.bl.dec b).now.length;unfold Mp.dec;rw[Mp.setN_len];exact hbl) n HQ3.out
   clear hct hdr a1 a4 hk0
   go_wp2_with fail
   refine hldc.mono ?_
   rintro e w3 ⟨v,rfl,hnd,hb3⟩
   obtain ⟨A1,c1,rfl⟩:=hnd.val
   obtain ⟨-,-,-,hrd,-,hob,hE,-,-,hl8⟩:=hnd.parts
   have HOB:=Hi hob
   have hzl:((n.lv:Nat):Int)=0:=by rw[HL.out];rfl
   obtain ⟨ms,hms⟩ :∃q:Int,((n.sq:Nat):Int)=q:=⟨_,rfl⟩
   obtain ⟨L,hL⟩ :∃q,n.es.length=q:=⟨_,rfl⟩
   rw[hzl,hms,hL]
   have HLL:=Hi hL
   have HRD:=Hi hrd
   have HE:=Hi hE
   rw[hL] at hl8
   clear hnd hrd hob hE hzl hms hL hldc
   go_wp2_with fail
   have hb4:Below w3.heap.size w3 (w3.alloc (.cells #[.int .i64 0,.int .i64 ms,.slice A1 L c1] 129)):=(Below.refl _ w3).alloc (Nat.le_refl _) _
   have hC4:=Cs.new w3 129 #[.int .i64 0,.int .i64 ms,.slice A1 L c1]
   generalize (w3.alloc (.cells #[.int .i64 0,.int .i64 ms,.slice A1 L c1] 129))=w4 at hb4 hC4 ⊢
   obtain ⟨B,hB⟩ :∃q,w3.heap.size=q:=⟨_,rfl⟩
   have hbb:Below w1.heap.size w1 w4:=hb3.trans (hb4.mono hb3.size)
   have hBs:w1.heap.size≤B:=by rw[←hB];exact hb3.size
   rw[hB] at hC4 ⊢
   have HS4:=Hi (HS1.out.keep hbb)
   have hrd4:=Hi (HRD.out.keep hb4)
   have HC4:=Hi hC4
   have HBB:=Hi hbb
   have HS0:=Hi F1.out.size
   have hPB:¬P.has B:=fun q=>by have h1:=H.out.lt B q;have:=HS0.out;omega
   clear hb3 hb4 hC4 hbb hB HRD x1
   go_loopw [9,10] (fun s9 s10 wr=>∃i:Nat,i≤L∧s9=.int .i64 0∧s10=.int .i64 i∧Hid (StIn wr (fun j=>F j∧j<W.heap.size) P { S with bl:=S.bl.dec b,da:=S.da.decs ((dats k n).take i) } ws)∧Hid (Fr P.has w4 wr)) (fun _ s10 _=>L - (intOf s10).toNat)
   case atStart=>exact ⟨0,Nat.zero_le _,rfl,rfl,HS4.out,Fr.refl _ _⟩
   case round=>
    obtain ⟨i,hi,rfl,rfl,hst,hfr⟩:=hrel
    have hc:=HC4.out.fr hfr.out hPB
    obtain ⟨y0,y1,y2,-,-,-⟩:=hc.at3
    have x2:wr.cell? ⟨P.s,2,none⟩=some (.pointer (some ⟨P.d.p,0,none⟩)):=hst.out.cs.cell 2
    by_cases hlt:i<L
    ·have hrd:=hrd4.out.fr hfr.out (fun h0 p hp q=>(HOB.out (fun e=>h0 (by rw[e];rfl)) p hp).1.2 q)
     obtain ⟨ab,ao,rfl,hal,hcl⟩:=hrd.e (by rw[HLL.out];omega)
     have hcv:=(hcl i (by rw[HLL.out];exact hlt)).2
     have hvb:=(HE.out.at i).2.2
     obtain ⟨vv,hvv⟩ :∃vv,(n.es[i]?.getD (0,0)).2=vv:=⟨_,rfl⟩
     rw[hvv] at hcv hvb
     have HVV:=Hi hvv
     clear hcl hrd hvv hc
     cases k
     ·have hnx:Hid (StIn wr (fun j=>F j∧j<W.heap.size) P { S with bl:=S.bl.dec b,da:=S.da.decs ((dats false n).take (i+1)) } ws):=by
       have h0:dats false n= []:=by unfold dats;simp
       have:=hst.out
       rw[h0,List.take_nil] at this
       show StIn _ _ _ _ _
       rw[h0,List.take_nil]
       exact this
      go_wp2_with fail
      go_roundw
      case rel=>exact ⟨i+1,by omega,rfl,by go_num,hnx,hfr⟩
      case measure=>simp[intOf];omega
     ·have hdat:(dats true n)[i]? =some (dOf vv):=by
       have h0:dats true n=n.es.map (fun e=>dOf e.2):=by unfold dats;rw[if_pos ⟨HL.out,rfl⟩]
       rw[h0,List.getElem?_map,List.getElem?_eq_getElem (by rw[HLL.out];exact hlt)]
       have:=HVV.out
       rw[getD_mem (by rw[HLL.out];exact hlt)] at this
       rw[←this]
       rfl
      have hE0:=decs_take HA1.out hdat
      have htk:(dats true n).take (i+1)=(dats true n).take i++ [dOf vv]:=by
       rw[List.take_add_one,hdat]
       rfl
      have hrun:∀Wx,Below wr.heap.size wr Wx→Calls Tryz.prog 94 #[.pointer (some ⟨P.d.p,0,none⟩),.int .i64 ((dOf vv:Nat):Int)] Wx fun e w'=>e=.returned (.int .i64 0)∧Hid (StIn w' (fun j=>F j∧j<W.heap.size) P { S with bl:=S.bl.dec b,da:=S.da.decs ((dats true n).take (i+1)) } ws)∧Hid (Fr P.has w4 w'):=by
       intro Wx hWx
       have hs:=hst.out.keep hWx
       have hi:=rdec_any hs.md (dOf vv)
       change Calls _ _ _ _ (fun e w'=>e=.returned (.int .i64 ((S.da.decs ((dats true n).take i)).decE (dOf vv)))∧_) at hi
       rw[hE0] at hi
       refine hi.mono ?_
       rintro e w' ⟨rfl,q1,q2⟩
       refine ⟨rfl,?_,(hfr.out.trans (Fr.of_below hWx)).trans (q2.has has_dn)⟩
       show StIn _ _ _ _ _
       rw[htk,decs_snoc]
       rw[if_pos rfl] at q1
       exact hs.daSet q1 q2
      have HRd:=Hi (hrun wr.drew (Below.refl _ wr).drew)
      have HDd:=Hi (rdata_any vv wr.drew hvb)
      clear hrun hE0 htk hdat
      go_wp2_with fail
      go_region_with (first|(go_at_call 95;go_loud (with_reducible refine HDd.out.mono ?_;rintro e w' ⟨rfl,rfl⟩))|(go_at_call 94;go_loud (with_reducible refine HRd.out.mono ?_;rintro e w5 ⟨rfl,hs5,hf5⟩)))
      all_goals
       go_wp2_with fail
       go_roundw
       case rel=>exact ⟨i+1,by omega,rfl,by go_num,hs5,hf5⟩
       case measure=>simp[intOf];omega
    ·obtain rfl:i=L:=by omega
     have hT:(dats k n).take i=dats k n:=List.take_of_length_le (by unfold dats;split <;> simp;rw[HLL.out];exact Nat.le_refl _)
     have hs:=hst.out
     rw[hT] at hs
     have HS:=Hi hs
     clear hs hT
     go_wp2_with fail
     go_ret
     exact ⟨rfl,_,HDR.out,HS.out.wide (fun j hj _=>hj.1) HF.out,(F1.out.trans (Fr.of_below HBB.out)).trans hfr.out⟩
 |succ l ih=>
  intro F W S rs b n h hI hn hl hK
  have H:=Hi (h.wide (F':=fun j=>F j∧j<W.heap.size) (fun j h1 h2=>⟨h1,h2⟩) (fun j hj=>⟨h.inF j hj,h.lt j hj⟩))
  have HF:=Hi (show∀j,P.has j→F j from h.inF)
  obtain ⟨q1,q2,q3⟩:=nd_count hn
  have hbl:=nd_lt hn
  have hdE:S.bl.decE b=0:=by unfold Mp.decE;rw[if_neg (by omega),if_neg q1]
  have hd:=rdec_any H.out.mb b
  rw[hdE,if_pos rfl] at hd
  have hlenb:=h.mb.lt
  have hsmb:=h.mb.sm b
  have x1:W.cell? ⟨P.s,1,none⟩=some (.pointer (some ⟨P.b.p,0,none⟩)):=h.cs.cell 1
  obtain ⟨cc,hcc⟩ :∃cc,S.bl.count b=cc:=⟨_,rfl⟩
  have HI:=Hi hI
  have HN:=Hi hn
  have HL:=Hi hl
  have HK:=Hi hK
  have HCC:=Hi hcc
  have HQ3:=Hi q3
  have hcc0:cc≠0:=by omega
  have hdrop:Hid (St.drop k (l+1) S b=if 1<cc then some { S with bl:=S.bl.dec b } else n.es.foldlM (fun S e=>St.drop k l S e.2) { S with bl:=S.bl.dec b }):=by
   show _=_
   rw[St.drop,hcc,q3]
  have IH:=Hi ih
  clear h hI hn hl hK hdE hcc q1 q3 ih
  go_enter Tryz.func87,Tryz.ntmps87
  go_wp2_with fail
  refine hd.mono ?_
  rintro e w1 ⟨rfl,hm1,hf1⟩
  have HS1:=Hi (H.out.blSet hm1 hf1 (Mp.setN_len _ _ _))
  have F1:=Hi (hf1.has (P:=P) has_bn)
  have hct:=rcount_any hm1 b
  have hcd:(S.bl.dec b).count b=cc - 1:=by rw[Mp.count_dec hbl,if_pos rfl,HCC.out]
  rw[hcd] at hct
  have x1:w1.cell? ⟨P.s,1,none⟩=some (.pointer (some ⟨P.b.p,0,none⟩)):=HS1.out.cs.cell 1
  clear hd hm1 hf1 hcd
  go_wp2_with fail
  refine hct.mono ?_
  rintro e w2 ⟨rfl,rfl⟩
  by_cases hc1:1<cc
  ·have d1:(0:Int)<((cc - 1:Nat):Int):=by omega
   clear hct
   go_wp2_with fail
   go_ret
   have hdr:=hdrop.out
   rw[if_pos hc1] at hdr
   exact ⟨rfl,_,hdr,HS1.out.wide (fun j hj _=>hj.1) HF.out,F1.out⟩
  ·have d1:¬(0:Int)<((cc - 1:Nat):Int):=by omega
   have hdr:=hdrop.out
   rw[if_neg hc1] at hdr
   have HDR:=Hi hdr
   obtain ⟨a1,a4⟩:=drop_head HI.out HN.out HK.out (by rw[HCC.out];omega)
   have ho:=HI.out.nd b n HN.out
   have hl0:n.lv≠0:=by rw[HL.out];exact Nat.succ_ne_zero _
   have hk0:kids n=n.es.map Prod.snd:=by unfold kids;rw[if_neg hl0]
   have hd0:dats k n= []:=by unfold dats;rw[if_neg (fun e=>hl0 e.1)]
   rw[hk0,hd0,List.nil_append] at a1
   have hkd:∀e∈n.es,∃m,St.nd { S with bl:=S.bl.dec b } Z e.2=some m∧m.lv=l∧G.K e.2=k∧m.sq≤n.sq:=fun e he=>by
    obtain ⟨m,m1,m2,m3,-⟩:=ho.f.kid hl0 e he
    have hne:e.2≠b:=fun q=>by
     rw[q,HN.out] at m1
     injection m1 with m1
     rw[←m1] at m2
     omega
    exact ⟨m,(a4 _).trans ((nd_Zi hne).trans m1),by have:=HL.out;omega,by rw[m3];exact HK.out,ho.ks e.2 m (kid_mem hl0 he) m1⟩
   have HA1:=Hi a1
   have HKD:=Hi hkd
   have hne0:=ho.f.ne hl0
   have hldc:=rload26_any w1 _ P { S with bl:=S.bl.dec b } ws HS1.out b (by show b<(S.bl.dec b).now.length;unfold Mp.dec;rw[Mp.setN_len];exact hbl) n HQ3.out
   clear hct hdr a1 a4 hk0 hd0 ho hkd
   go_wp2_with fail
   refine hldc.mono ?_
   rintro e w3 ⟨v,rfl,hnd,hb3⟩
   obtain ⟨A1,c1,rfl⟩:=hnd.val
   obtain ⟨-,-,-,hrd,hcp,hob,hE,-,-,hl8⟩:=hnd.parts
   obtain ⟨ml,hml⟩ :∃q:Int,((n.lv:Nat):Int)=q:=⟨_,rfl⟩
   obtain ⟨ms,hms⟩ :∃q:Int,((n.sq:Nat):Int)=q:=⟨_,rfl⟩
   obtain ⟨L,hL⟩ :∃q,n.es.length=q:=⟨_,rfl⟩
   rw[hml,hms,hL]
   have hmp:(0:Int)<ml:=by omega
   have hml0:¬ml=0:=by omega
   have hL0:¬(L:Int)=0:=by
    have:=List.length_pos_iff.2 hne0
    omega
   have hL0b:((L:Int) == 0)=false:=beq_eq_false_iff_ne.2 hL0
   have HLL:=Hi hL
   have HML:=Hi hml
   have HMS:=Hi hms
   have HRD:=Hi hrd
   have HE:=Hi hE
   have HOB:=Hi hob
   rw[hL] at hl8
   clear hnd hrd hob hE hml hms hL hldc hne0 hl0 hcp
   go_wp2_with fail
   have hb4:Below w3.heap.size w3 (w3.alloc (.cells #[.int .i64 ml,.int .i64 ms,.slice A1 L c1] 129)):=(Below.refl _ w3).alloc (Nat.le_refl _) _
   have hC4:=Cs.new w3 129 #[.int .i64 ml,.int .i64 ms,.slice A1 L c1]
   generalize (w3.alloc (.cells #[.int .i64 ml,.int .i64 ms,.slice A1 L c1] 129))=w4 at hb4 hC4 ⊢
   obtain ⟨B,hB⟩ :∃q,w3.heap.size=q:=⟨_,rfl⟩
   have hbb:Below w1.heap.size w1 w4:=hb3.trans (hb4.mono hb3.size)
   have hBs:w1.heap.size≤B:=by rw[←hB];exact hb3.size
   rw[hB] at hC4 ⊢
   have HS4:=Hi (HS1.out.keep hbb)
   have hrd4:=Hi (HRD.out.keep hb4)
   have HC4:=Hi hC4
   have HBB:=Hi hbb
   have HS0:=Hi F1.out.size
   have hPB:¬P.has B:=fun q=>by have h1:=H.out.lt B q;have:=HS0.out;omega
   clear hb3 hb4 hC4 hbb hB HRD x1
   go_loopw [9,10] (fun s9 s10 wr=>∃(i:Nat) (Si:St),i≤L∧s9=.int .i64 0∧s10=.int .i64 i∧Hid (StIn wr (fun j=>F j∧j<W.heap.size) P Si ws)∧Hid (Fr P.has w4 wr)∧Hid ((n.es.take i).foldlM (fun S e=>St.drop k l S e.2) { S with bl:=S.bl.dec b } =some Si∧Inv Si Z ((n.es.drop i).map Prod.snd++rs) pd G∧∀e∈n.es.drop i,∃m,Si.nd Z e.2=some m∧m.lv=l∧G.K e.2=k∧m.sq≤n.sq)) (fun _ s10 _=>L - (intOf s10).toNat)
   case atStart=>exact ⟨0,_,Nat.zero_le _,rfl,rfl,HS4.out,Fr.refl _ _,rfl,HA1.out,HKD.out⟩
   case round=>
    obtain ⟨i,Si,hi,rfl,rfl,hst,hfr,hall⟩:=hrel
    have hc:=HC4.out.fr hfr.out hPB
    obtain ⟨y0,y1,y2,-,-,-⟩:=hc.at3
    by_cases hlt:i<L
    ·have hrd:=hrd4.out.fr hfr.out (fun h0 p hp q=>(HOB.out (fun e=>h0 (by rw[e];rfl)) p hp).1.2 q)
     obtain ⟨ab,ao,rfl,hal,hcl⟩:=hrd.e (by rw[HLL.out];omega)
     have hcv:=(hcl i (by rw[HLL.out];exact hlt)).2
     have hvb:=(HE.out.at i).2.2
     obtain ⟨vv,hvv⟩ :∃vv,(n.es[i]?.getD (0,0)).2=vv:=⟨_,rfl⟩
     rw[hvv] at hcv hvb
     obtain ⟨f1,f2,f3⟩:=hall.out
     have hiL:i<n.es.length:=by rw[HLL.out];exact hlt
     have hgm:=getD_mem hiL
     have hdc:n.es.drop i=n.es[i] :: n.es.drop (i+1):=List.drop_eq_getElem_cons hiL
     rw[hgm] at hvv
     rw[hdc] at f2 f3
     obtain ⟨m,m1,m2,m3,m4⟩:=f3 n.es[i] List.mem_cons_self
     rw[hvv] at m1 m3
     have hvl:=nd_lt m1
     have hvl2:=hst.out.mb.lt
     have f2':Inv Si Z (vv :: ((n.es.drop (i+1)).map Prod.snd++rs)) pd G:=by
      rw[List.map_cons,hvv] at f2
      exact f2
     obtain ⟨S2,d1,d2,d3,d4⟩:=drop_ok (k:=k) l Si vv m ((n.es.drop (i+1)).map Prod.snd++rs) f2' m1 m2 m3
     have hnext:Hid ((n.es.take (i+1)).foldlM (fun S e=>St.drop k l S e.2) { S with bl:=S.bl.dec b } =some S2∧Inv S2 Z ((n.es.drop (i+1)).map Prod.snd++rs) pd G∧∀e∈n.es.drop (i+1),∃m,S2.nd Z e.2=some m∧m.lv=l∧G.K e.2=k∧m.sq≤n.sq):=by
      refine ⟨?_,d2,fun e he=>?_⟩
      ·rw[List.take_succ_eq_append_getElem hiL,List.foldlM_append,f1]
       show St.drop k l Si (n.es[i]).2 >>= _=_
       rw[hvv,d1]
       rfl
      ·obtain ⟨m',e1,e2,e3,e4⟩:=f3 e (List.mem_cons_of_mem _ he)
       exact ⟨m',(d3.nd e.2 (List.mem_append_left _ (List.mem_map_of_mem he))).trans e1,e2,e3,e4⟩
     have hchd:∀Wx,Below wr.heap.size wr Wx→Calls Tryz.prog 123 #[.pointer (some ⟨P.s,0,none⟩),.agg #[.int .i64 ml,.int .i64 ms,.slice (some ⟨ab,ao,none⟩) L c1],.int .u64 (vv:Int)] Wx fun e w'=>∃v,e=.returned (.tuple #[.int .i64 (vv:Int),v,.int .i64 0])∧Below Wx.heap.size Wx w':=fun Wx hWx=>by
      have hs:=hst.out.keep hWx
      rw[←HML.out,←HMS.out]
      refine (rchild26_any Wx _ P Si ws hs n.lv n.sq (some ⟨ab,ao,none⟩) L c1 vv hvl m (nd_count m1).2.2 (by have:=HL.out;omega) m4).mono ?_
      rintro e w' ⟨v,rfl,-,hb⟩
      exact ⟨v,rfl,hb⟩
     have hrec:∀Wx,Below wr.heap.size wr Wx→Calls Tryz.prog 87 #[.pointer (some ⟨P.s,0,none⟩),.int .i64 (vv:Int),.bool k] Wx fun e w'=>e=.returned (.int .i64 0)∧Hid (StIn w' (fun j=>F j∧j<W.heap.size) P S2 ws)∧Hid (Fr P.has w4 w'):=fun Wx hWx=>by
      have hs:=hst.out.keep hWx
      refine (IH.out (fun j=>F j∧j<W.heap.size) Wx Si ((n.es.drop (i+1)).map Prod.snd++rs) vv m hs f2' m1 m2 m3).mono ?_
      rintro e w' ⟨rfl,S',e1,e2,e3⟩
      rw[d1] at e1
      injection e1 with e1
      subst e1
      exact ⟨rfl,e2,(hfr.out.trans (Fr.of_below hWx)).trans e3⟩
     have HCHD:=Hi hchd
     have HREC:=Hi hrec
     have ecv:IntKind.i64.wrap (vv:Int)=(vv:Int):=IntWalk.i64_in _ (by omega)
     clear hcl hrd hvv hc f1 f2 f3 hgm hdc m1 m2 m3 m4 d1 d2 d3 d4 f2' hchd hrec hvl hvl2
     go_wp2_with fail
     refine (HCHD.out wr (Below.refl _ wr)).mono ?_
     rintro e w5 ⟨v5,rfl,hb5⟩
     have HB5:=Hi hb5
     clear hb5
     go_wp2_with fail
     refine (HREC.out w5 HB5.out).mono ?_
     rintro e w6 ⟨rfl,hs6,hf6⟩
     go_wp2_with fail
     go_roundw
     case rel=>exact ⟨i+1,S2,by omega,rfl,by go_num,hs6,hf6,hnext⟩
     case measure=>simp[intOf];omega
    ·obtain rfl:i=L:=by omega
     obtain ⟨f1,f2,f3⟩:=hall.out
     have hT:n.es.take i=n.es:=List.take_of_length_le (by rw[HLL.out];exact Nat.le_refl _)
     rw[hT] at f1
     have HF1:=Hi f1
     clear f1 f2 f3 hT
     go_wp2_with fail
     go_ret
     exact ⟨rfl,Si,HDR.out.trans HF1.out,hst.out.wide (fun j hj _=>hj.1) HF.out,(F1.out.trans (Fr.of_below HBB.out)).trans hfr.out⟩
end
section
open Go.RowKit
section
variable {S S':St} {Z:Nat→Bool} {rs pd:List Nat} {G G':Gh} {N N' r:Nat} {m m':Mt} {d:Dv} {L:List Dv} {Nt f:Nat} {P:SP} {ws:List Nat}
theorem Keep.da (h:Keep S S' Z rs G G') {q:Mp} (h1:q.now.length=S'.da.now.length) (h2:q.old=S'.da.old):Keep S { S' with da:=q } Z rs G G':=by
 refine { h with dl:=h1.trans h.dl,do_:=h2.trans h.do_,nd:=fun r hr=>?_,zk:=h.zk }
 exact h.nd r hr
theorem nd_da (S:St) (Z:Nat→Bool) (q:Mp) (u:Nat):St.nd { S with da:=q } Z u=S.nd Z u:=rfl
theorem MtX.pe_lt (h:MtX m L Nt N f G) {d:Nat} (hd:d∈m.pe):d<m.data∧m.S.da.count d≠0∧m.S.da.decE d=0:=by
 have h1:=h.inv.dt d
 have:=List.count_pos_iff.2 hd
 have h2:m.S.da.count d≠0:=by omega
 have h3:=Mp.lt_of_count h2
 refine ⟨by rw[←h.dn];exact h3,h2,?_⟩
 unfold Mp.decE
 rw[if_neg (by omega),if_neg h2]
theorem alloc_ok (h:MtX m m.dv Nt N 6 G) {d:Nat} (hp:m.S.da.pick=some d) (hpl:m.pe.length<1000):MtX (m.took d) m.dv Nt N 6 G:=by
 obtain ⟨p1,p2,p3⟩:=Mp.pick_some hp
 have hk:Keep m.S { m.S with da:=m.S.da.setN d 1 } (zM m.data m.root) (m.tree :: m.dv.map Dv.rt) G G:=(Keep.refl _ _ _ _).da (Mp.setN_len _ _ _) rfl
 refine ⟨h.inv.da (fun x=>?_),h.kt,h.rt.keep hk List.mem_cons_self (Nat.le_refl _),fun x hx=>(h.dv x hx).keep hk (List.mem_cons_of_mem _ (List.mem_map_of_mem hx)) (Nat.le_refl _) rfl rfl (Nat.le_refl _),h.et,h.ll,?_,h.tl,h.sl,h.ss,h.z1,h.rl,h.bn,(Mp.setN_len _ _ _).trans h.dn,h.d1,h.d2,h.c1,h.c2,h.ar,h.sz,h.wl,h.dk,h.w6,h.fr,h.nt,h.nn⟩
 ·rw[Mp.count_setN p1]
  show _=_+(m.pe++ [d]).count x
  rw[List.count_append,List.count_singleton]
  by_cases e:x=d
  ·subst e
   rw[if_pos rfl]
   simp
   omega
  ·rw[if_neg e]
   have:(d == x)=false:=by simp;omega
   rw[this]
   simp
 ·show (m.pe++ [d]).length≤1000
  simp
  omega
theorem count_erase_add {l:List Nat} {d:Nat} (hd:d∈l) (x:Nat):(l.erase d).count x+(if x=d then 1 else 0)=l.count x:=by
 rw[List.count_erase]
 by_cases e:x=d
 ·subst e
  have:=List.count_pos_iff.2 hd
  rw[if_pos rfl]
  simp
  omega
 ·rw[if_neg e]
  have h2:(d == x)=false:=by simpa using fun q:d=x=>e q.symm
  rw[h2]
  simp
theorem freed_ok (h:MtX m m.dv Nt N 6 G) {d:Nat} (hd:d∈m.pe):MtX (m.freed d) m.dv Nt N 6 G:=by
 obtain ⟨p1,p2,p3⟩:=h.pe_lt hd
 have hk:Keep m.S { m.S with da:=m.S.da.dec d } (zM m.data m.root) (m.tree :: m.dv.map Dv.rt) G G:=(Keep.refl _ _ _ _).da (Mp.setN_len _ _ _) rfl
 refine ⟨h.inv.da (fun x=>?_),h.kt,h.rt.keep hk List.mem_cons_self (Nat.le_refl _),fun x hx=>(h.dv x hx).keep hk (List.mem_cons_of_mem _ (List.mem_map_of_mem hx)) (Nat.le_refl _) rfl rfl (Nat.le_refl _),h.et,h.ll,?_,h.tl,h.sl,h.ss,h.z1,h.rl,h.bn,(Mp.setN_len _ _ _).trans h.dn,h.d1,h.d2,h.c1,h.c2,h.ar,h.sz,h.wl,h.dk,h.w6,h.fr,h.nt,h.nn⟩
 ·rw[Mp.count_dec (by rw[h.dn];exact p1)]
  show _=_+(m.pe.erase d).count x
  have:=count_erase_add hd x
  by_cases e:x=d
  ·subst e
   rw[if_pos rfl] at this ⊢
   omega
  ·rw[if_neg e] at this ⊢
   omega
 ·show (m.pe.erase d).length≤1000
  exact Nat.le_trans List.length_erase_le h.pl
theorem E_asc (h:MtX m L Nt N f G) (hd:d∈L):AscE (G.E d.rt)∧∃n,m.S.nd (zM m.data m.root) d.rt=some n∧(n.lv≠0→2≤n.es.length)∧rP G d.rt n.lv+rQ G d.rt n.lv≤N∧n.lv≤2:=by
 obtain ⟨n,q1,q2,q3⟩:=(h.dv d hd).rt.ex
 exact ⟨(h.inv.keys n.lv d.rt n q1 rfl).2.2,n,q1,q2,q3,rP_lv q3 h.nn⟩
theorem roots_split (h:MtX m m.dv Nt N f G) {id:Nat} (hh:hasD m.dv id=true) (u:Nat):((dvAt m.dv id).rt :: m.tree :: (othD m.dv id).map Dv.rt).count u=(m.tree :: m.dv.map Dv.rt).count u:=by
 obtain ⟨pre,post,e1,-,-,-,-,e2⟩:=dv_split h.srt hh
 rw[e2]
 generalize dvAt m.dv id=o at *
 rw[e1]
 simp only[List.count_cons,List.map_append,List.map_cons,List.count_append]
 omega
theorem dvAt_in (h:MtX m m.dv Nt N f G) {id:Nat} (hh:hasD m.dv id=true):dvAt m.dv id∈m.dv∧(dvAt m.dv id).id=id:=by
 obtain ⟨pre,post,e1,-,e2,-⟩:=dv_split h.srt hh
 refine ⟨?_,e2⟩
 have:dvAt m.dv id∈pre++dvAt m.dv id :: post:=List.mem_append_right _ List.mem_cons_self
 rw[←e1] at this
 exact this
theorem oth_len (l:List Dv) (id:Nat):(othD l id).length≤l.length:=List.length_filter_le _ _
theorem lookE_mem {l:List (Int × Nat)} {key:Int} {w:Nat} (h:lookE l key=some w):(key,w)∈l:=by
 unfold lookE at h
 rw[Option.map_eq_some_iff] at h
 obtain ⟨e,h1,h2⟩:=h
 have h3:=List.find?_some h1
 have h4:=List.mem_of_find?_eq_some h1
 have h5:e.1=key:=of_decide_eq_true h3
 rw[←h5,←h2]
 exact h4
theorem dOf_mpV {d t:Nat} (hd:d<16777216):dOf (mpV d t)=d:=by unfold dOf mpV;omega
theorem map_ok (h:MtX m m.dv Nt N 6 G) {id b d:Nat} (hid:id≤65535) (hE:m.mapE id b d=0) (hN:N+1≤100) (hNt:Nt+1≤100) :
  ∃t1 t2 S1 S3 old old2 had had2 G',d<16777216∧m.time<1048576∧(dvAt m.dv id).tm<1048576∧(dvAt m.dv id).mp<16777215∧t1<1048576∧old<18446744073709551616∧(∀P,InsC P m.ws m.S true (dvAt m.dv id).rt b (mpV d m.time) t1 S1 old had)∧(had=true→S1.da.decE (dOf old)=0)∧
   (∀P,InsC P m.ws (if had=true then { S1 with da:=S1.da.dec (dOf old) } else S1) false m.tree id (Dv.mk id t1 (dvAt m.dv id).tm (if had=true then (dvAt m.dv id).mp else (dvAt m.dv id).mp+1)).val t2 S3 old2 had2)∧
   MtX ((m.mapd d (if had=true then { S1 with da:=S1.da.dec (dOf old) } else S1)).setD ⟨id,t1,(dvAt m.dv id).tm,if had=true then (dvAt m.dv id).mp else (dvAt m.dv id).mp+1⟩ t2 S3) (insF m.dv ⟨id,t1,(dvAt m.dv id).tm,if had=true then (dvAt m.dv id).mp else (dvAt m.dv id).mp+1⟩) (Nt+1) (N+1) 6 G'∧
   (LeafT m→m.dv.length≤6→LeafT ((m.mapd d (if had=true then { S1 with da:=S1.da.dec (dOf old) } else S1)).setD ⟨id,t1,(dvAt m.dv id).tm,if had=true then (dvAt m.dv id).mp else (dvAt m.dv id).mp+1⟩ t2 S3)):=by
 obtain ⟨e1,e2,e3,e4,e5⟩:=mapE_ok hE
 have hsr:=h.srt
 obtain ⟨hin,hoid⟩:=dvAt_in h e3
 have hrs:=roots_split h e3
 obtain ⟨o,ho⟩ :∃o,dvAt m.dv id=o:=⟨_,rfl⟩
 rw[ho] at hin hoid hrs ⊢
 have hok:=h.dv o hin
 obtain ⟨hasc,n,hn,hn2,hp,hlv⟩:=E_asc h hin
 have h4:=h.len4
 have hll:=h.ll
 have hpl:=h.pl
 have hnn:=h.nn
 have htl:=h.tl
 have hd2:=h.d2
 have hol:=oth_len m.dv id
 have hdv:dOf (mpV d m.time)=d:=dOf_mpV (by omega)
 have hpe:∀x,(dv true (mpV d m.time)++m.pe.erase d).count x=m.pe.count x:=fun x=>by
  show ([dOf (mpV d m.time)]++m.pe.erase d).count x=_
  rw[hdv,List.count_append,List.count_singleton,←count_erase_add e4 x]
  by_cases e:x=d
  ·subst e;simp;omega
  ·rw[if_neg e]
   have:(d == x)=false:=by simp;omega
   simp[this]
 have hI:Inv m.S (zM m.data m.root) (o.rt :: m.tree :: (othD m.dv id).map Dv.rt) (dv true (mpV d m.time)++m.pe.erase d) G:=h.inv.perm hrs hpe
 have hi:=insert_ok (key:=(b:Int)) (v:=mpV d m.time) (k:=true) (by omega) hI hn hok.k (by omega) hn2
 cases hq:m.S.insert true (b:Int) (mpV d m.time) o.rt with
 |none=>
  rw[hq] at hi
  have hi2:m.S.bl.free<2 * (n.lv+1)+1:=hi
  omega
 |some p=>
  obtain ⟨t1,S1⟩:=p
  rw[hq] at hi
  obtain ⟨G1,nt,hT,h5,h6,h7,h8⟩:=hi
  have hpel:=List.length_erase_le (a:=d) (l:=m.pe)
  have hC:∀P,InsC P m.ws m.S true o.rt b (mpV d m.time) t1 S1 ((lookE (G.E o.rt) (b:Int)).getD 0) (lookE (G.E o.rt) (b:Int)).isSome:=fun P=>insC_of hI hn hok.k (by omega) (by unfold mpV;omega) (by omega) (by rw[List.length_cons,List.length_map];omega) (by omega) hq
  have hk:=hT.keep
  have ht1:=nd_lt h5
  have hbn:=hk.bn
  have hlen:(insE (G.E o.rt) (b:Int) (mpV d m.time)).length=(if (lookE (G.E o.rt) (b:Int)).isSome=true then o.mp else o.mp+1):=by
   rw[insE_len hasc,hok.mp]
   cases lookE (G.E o.rt) (b:Int) <;> rfl
  have hmp:=hok.mn
  have hmid:∀Sx:St,Keep m.S Sx (zM m.data m.root) (m.tree :: (othD m.dv id).map Dv.rt) G G1→Inv Sx (zM m.data m.root) (t1 :: m.tree :: (othD m.dv id).map Dv.rt) (m.pe.erase d) G1→(∀u,Sx.nd (zM m.data m.root) u=S1.nd (zM m.data m.root) u)→Sx.bl=S1.bl→∀mp',(insE (G.E o.rt) (b:Int) (mpV d m.time)).length=mp'→mp'≤N+1→
    MtX (m.mapd d Sx) (insF (m.mapd d Sx).dv ⟨id,t1,o.tm,mp'⟩) Nt (N+1) 13 G1:=by
   intro Sx kx hIx hnx hbx mp' hmp1 hmp2
   refine ⟨hIx.perm (fun u=>?_) (fun _=>rfl),?_,h.rt.keep kx List.mem_cons_self (Nat.le_refl _),fun x hx=>?_,?_,?_,?_,Nat.le_succ_of_le h.tl,Nat.le_succ_of_le h.sl,kx.sq.trans h.ss,fun u hu=>?_,h.rl,kx.bn.trans h.bn,kx.dl.trans h.dn,h.d1,h.d2,h.c1,h.c2,h.ar,h.sz,h.wl,kx.dk.trans h.dk,h.w6,?_,h.nt,hN⟩
   ·exact insF_roots hsr ⟨id,t1,o.tm,mp'⟩ m.tree u _ id rfl rfl
   ·show G1.K m.tree=false
    rw[(kx.gh m.tree List.mem_cons_self).2.2.2]
    exact h.kt
   ·rcases insF_mem (l:=m.dv) hsr hx with rfl| ⟨q,qn⟩
    ·refine ⟨hid,⟨nt,(hnx _).trans h5,h6,?_⟩,hT.kd,hok.tm,?_,hmp2,fun e he=>?_⟩
     ·show rP G1 t1 nt.lv+rQ G1 t1 nt.lv≤N+1
      omega
     ·show (G1.E t1).length=mp'
      rw[hT.con]
      exact hmp1
     ·have he2:e∈G1.E t1:=he
      rw[hT.con] at he2
      rcases insE_mem he2 with q|q
      ·rw[q]
       refine ⟨by rw[show ((b:Int),mpV d m.time).2=mpV d m.time from rfl,hdv];exact e2,?_,?_⟩
       ·show mpV d m.time / 16777216 % 1048576≤m.time
        unfold mpV
        omega
       ·show mpV d m.time<_
        unfold mpV
        omega
      ·exact hok.es e q
    ·exact (h.dv x q).keep kx (List.mem_cons_of_mem _ (List.mem_map_of_mem (List.mem_filter.2 ⟨q,by simpa using qn⟩))) (Nat.le_succ _) rfl rfl (Nat.le_refl _)
   ·show G1.E m.tree=dvE m.dv
    rw[(kx.gh m.tree List.mem_cons_self).1]
    exact h.et
   ·have:=insF_len (l:=m.dv) hsr ⟨id,t1,o.tm,mp'⟩
    show (insF m.dv _).length≤N+1
    omega
   ·show (m.pe.erase d).length≤1000
    omega
   ·have hz:zM m.data m.root u=true:=hu
    have:=kx.zk u hz
    have hh:=h.z1 u hz
    exact ⟨this.1.trans hh.1,this.2.trans hh.2⟩
   ·have:=hT.fr
    show 13≤Sx.bl.free
    rw[hbx]
    omega
  cases hl:lookE (G.E o.rt) (b:Int) with
  |none=>
   rw[hl] at hlen hC
   have hinv:=hT.inv
   rw[show oldD true (G.E o.rt) (b:Int)= [] from by unfold oldD;rw[hl]] at hinv
   have hX:=hmid S1 hk hinv (fun _=>rfl) rfl (o.mp+1) hlen (by omega)
   obtain ⟨t2,S3,old2,had2,G',q1,q2,q3⟩:=setD_ok hX hNt
   refine ⟨t1,t2,S1,S3,0,old2,false,had2,G',by omega,by omega,by have:=hok.tm;omega,by omega,by omega,by omega,hC,fun q=>absurd q Bool.false_ne_true,q1,q2,fun hlf h6=>q3 (leaf_keep (m:=m) h.rt hk List.mem_cons_self hlf) h6⟩
  |some w=>
   rw[hl] at hlen hC
   have hinv:=hT.inv
   rw[show oldD true (G.E o.rt) (b:Int)= [dOf w] from by unfold oldD;rw[hl];rfl] at hinv
   have hw:=(hok.es _ (lookE_mem hl)).2.2
   have hX:=hmid { S1 with da:=S1.da.dec (dOf w) } (hk.da (Mp.setN_len _ _ _) rfl) (Inv.decs (l:=[dOf w]) hinv) (fun _=>rfl) rfl o.mp hlen (by omega)
   obtain ⟨t2,S3,old2,had2,G',q1,q2,q3⟩:=setD_ok hX hNt
   refine ⟨t1,t2,S1,S3,w,old2,true,had2,G',by omega,by omega,by have:=hok.tm;omega,by omega,by omega,?_,hC,fun _=>?_,q1,q2,fun hlf h6=>q3 (leaf_keep (m:=m) h.rt (hk.da (Mp.setN_len _ _ _) rfl) List.mem_cons_self hlf) h6⟩
   ·have:w<17592186044416:=hw
    omega
   ·have h1:=hinv.dt (dOf w)
    rw[List.count_append,List.count_singleton_self] at h1
    have h2:S1.da.count (dOf w)≠0:=by omega
    have h3:=Mp.lt_of_count h2
    unfold Mp.decE
    rw[if_neg (by omega),if_neg h2]
end
end
end Go.Proofs.YtplhdjdkobddnaaGreat
