/- ThM -/
import Derived.Test.YtplhdjdkobddnaaGreatTr33
set_option linter.unusedVariables false
set_option maxRecDepth 100000
set_option maxHeartbeats 40000000
namespace Go.Proofs.YtplhdjdkobddnaaGreat
section
open Go.RowKit
attribute [local go_sem] Oper.semAt_some
structure VsIn (W:World) (C cb vb lb cl:Nat) (k:CK) (ws:List Nat) (rg:Nat) (rl:List Nat) (len:Nat) (f:Nat→Option Nat) (nt:Nat) (T:List Int):Prop where
 v:VkIn W C cb k ws rg rl len f nt T
 bv:Cs W vb 173 #[.func (.func 114) #[] #[.pointer (some ⟨cb,0,none⟩),.pointer (some ⟨vb,0,none⟩),.pointer (some ⟨lb,0,none⟩)]]
 bl:Cs W lb 121 #[.func (.func 77) #[] #[.pointer (some ⟨cl,0,none⟩)]]
 bc:Cs W cl 55 #[.pointer (some ⟨C,0,none⟩)]
 a3:vb≠rg∧vb≠k.ms∧lb≠rg∧lb≠k.ms∧cl≠rg∧cl≠k.ms
section
variable {W W':World} {C cb vb lb cl:Nat} {k:CK} {ws:List Nat} {rg:Nat} {rl rl':List Nat} {len:Nat} {f f':Nat→Option Nat} {nt:Nat} {T:List Int}
theorem VsIn.keep (h:VsIn W C cb vb lb cl k ws rg rl len f nt T) (hb:Below W.heap.size W W'):VsIn W' C cb vb lb cl k ws rg rl len f nt T:=⟨h.v.keep hb,h.bv.below hb h.bv.lt,h.bl.below hb h.bl.lt,h.bc.below hb h.bc.lt,h.a3⟩
theorem VkIn.seen (h:VkIn W C cb k ws rg rl len f nt T) (hs:SnIn W' k.ms len f') (hf:Fr (· =k.ms) W W'):VkIn W' C cb k ws rg rl len f' nt T:=
 ⟨h.ck.fr hf (fun e=>h.a2.1 e.symm) (fun e=>h.a2.2.2.1 e.symm),h.bx.fr hf (fun e=>h.a2.2.1 e.symm),h.rf,own_fr h.rr hf (fun q hq e=>by simp[Value.ownBlock] at hq;rw[←hq] at e;exact h.a1.2.2.2.1 e),h.rl,hs,h.tk.fr hf (fun e=>h.a2.2.2.2 e.symm),h.a1,h.a2,Nat.lt_of_lt_of_le h.ml hf.size⟩
theorem VsIn.rest (h:VsIn W C cb vb lb cl k ws rg rl len f nt T) (hv:VkIn W' C cb k ws rg rl' len f' nt T) (hf:Fr (fun j=>j=rg∨j=k.ms) W W'):VsIn W' C cb vb lb cl k ws rg rl' len f' nt T:=
 ⟨hv,h.bv.fr hf (fun e=>e.elim h.a3.1 h.a3.2.1),h.bl.fr hf (fun e=>e.elim h.a3.2.2.1 h.a3.2.2.2.1),h.bc.fr hf (fun e=>e.elim h.a3.2.2.2.2.1 h.a3.2.2.2.2.2),h.a3⟩
theorem VkIn.box {cb':Nat} (h:VkIn W C cb k ws rg rl len f nt T) (hx:Cs W cb' 55 #[.pointer (some ⟨C,0,none⟩)]) (h1:cb'≠rg) (h2:cb'≠k.ms):VkIn W C cb' k ws rg rl len f nt T:=
 ⟨h.ck,hx,h.rf,h.rr,h.rl,h.sn,h.tk,⟨h.a1.1,fun e=>h1 e.symm,h.a1.2.2⟩,⟨h.a2.1,fun e=>h2 e.symm,h.a2.2.2⟩,h.ml⟩
end
structure WkE (k:CK) (ws:List Nat) (N:Nat→Option Nd) (G:Gh) (len sq0:Nat):Prop where
 nd:∀u n,N u=some n→dkW ws u=some n∧u<blN k.n∧2 * arB k.da<u∧u≠k.bk∧u<len∧NdOk N sq0 G u n
 ln:len≤4096
 da:k.da≤16384
 mp:k.mp=true
 ls:∃A n c,k.ls=.slice A n c∧n<64
def VsOk (C cb vb lb cl:Nat) (k:CK) (ws:List Nat) (rg:Nat) (len:Nat) (nt:Nat) (T:List Int) (N:Nat→Option Nd) (G:Gh) (u:Nat) (n:Nd):Prop:=
 ∀(W:World) (f:Nat→Option Nat) (rl:List Nat) (lv:Int) (sq:Nat) (lo hi:Int),VsIn W C cb vb lb cl k ws rg rl len f nt T→VI N G len f rl→PlOk n lv sq→(∀y∈G.A u,lo≤y∧y<hi)→
  Calls Tryz.prog 114 #[.int .u64 (u:Int),.agg #[.int .i64 lv,.int .i64 (sq:Int),.int .i64 lo,.int .i64 hi],.pointer (some ⟨cb,0,none⟩),.pointer (some ⟨vb,0,none⟩),.pointer (some ⟨lb,0,none⟩)] W fun e w'=>e=.returned (.int .i64 ((G.E u).length:Int))∧∃f' rl',VsIn w' C cb vb lb cl k ws rg rl' len f' nt T∧VI N G len f' rl'∧f' u≠none∧(∀x,f x≠none→f' x≠none)∧Fr (fun j=>j=rg∨j=k.ms) W w'
theorem kid_rng {N:Nat→Option Nd} {G:Gh} {sq0 u:Nat} {n:Nd} (ho:NdOk N sq0 G u n) {lo hi:Int} (hr:∀y∈G.A u,lo≤y∧y<hi) (hl:n.lv≠0) {i:Nat} (hi':i<n.es.length) :
  ∀y∈G.A (n.es[i]?.getD (0,0)).2,(n.es[i]?.getD (0,0)).1≤y∧y<(if i+1<n.es.length then (n.es[i+1]?.getD (0,0)).1 else hi):=by
 intro y hy
 have hm:n.es[i]?.getD (0,0)∈n.es:=by rw[getD_mem hi'];exact List.getElem_mem _
 obtain ⟨m,-,-,-,h4⟩:=ho.f.kid hl _ hm
 refine ⟨h4 y hy,?_⟩
 split
 ·rename_i h1
  have h2:=List.pairwise_iff_getElem.1 (ho.f.sep hl) i (i+1) hi' h1 (by omega)
  rw[List.getElem?_eq_getElem hi'] at hy
  rw[List.getElem?_eq_getElem h1]
  exact h2 y hy
 ·exact (hr y (by rw[ho.a];exact aOf_mem.2 (.inr ⟨hl,_,hm,hy⟩))).2
theorem ckvisit_core {C cb vb lb cl:Nat} {k:CK} {ws:List Nat} {rg len nt:Nat} {T:List Int} {N:Nat→Option Nd} {G:Gh} {sq0 u:Nat} {n:Nd} (E:WkE k ws N G len sq0) (hn:N u=some n) (hk:G.K u=true)
  (hE:∀e∈G.E u,dOf e.2<k.da∧e.2 / 16777216 % 1048576≤k.ti∧e.2<18446744073709551616) (hL:(G.E u).length≤1000000) (hT:(u:Int)∉T)
  (IH:n.lv≠0→∀e∈n.es,∀m,N e.2=some m→VsOk C cb vb lb cl k ws rg len nt T N G e.2 m):VsOk C cb vb lb cl k ws rg len nt T N G u n:=by
 intro W f rl lv sq lo hi H hv hp hr
 obtain ⟨e1,e2,e3,e4,e5,ho⟩:=E.nd u n hn
 obtain ⟨lsA,lsn,lsc,hls,hls64⟩:=E.ls
 have hlen:=E.ln
 have hda:=E.da
 have hnl:=H.v.ck.nl
 have HFL:=Hi (fun w (hw:Below W.heap.size W w)=>ckfull_any w C k (H.v.ck.cs.below hw H.v.ck.cs.lt) lsA lsn lsc hls hls64)
 have HBL:=Hi (fun w (hw:Below W.heap.size W w)=>ckblocks_any w C k (H.v.ck.cs.below hw H.v.ck.cs.lt) (by omega))
 have HND:=Hi (fun w (hw:Below W.heap.size W w)=>cknode_any w C k ws (H.v.ck.keep hw) u n e1 lv sq lo hi hp (by omega))
 have HAB:=Hi (fun w=>thareas_any k.da w (by omega))
 have hbl4:blN k.n≤4096:=by unfold blN;omega
 have har:arB k.da≤300:=by unfold arB;omega
 obtain ⟨B,hB⟩ :∃q,blN k.n=q:=⟨_,rfl⟩
 obtain ⟨a,ha⟩ :∃q,arB k.da=q:=⟨_,rfl⟩
 rw[hB] at HBL e2 hbl4
 rw[ha] at HAB e3 har
 clear hB ha
 have hlow:=H.v.lt
 have x0:W.cell? ⟨cb,0,none⟩=some (.pointer (some ⟨C,0,none⟩)):=H.v.bx.cell 0
 have hcb:cb<W.heap.size:=hlow.2.1
 have b0:Below W.heap.size W (W.alloc (.cells #[.int .i64 lv,.int .i64 (sq:Int),.int .i64 lo,.int .i64 hi] 116)):=(Below.refl _ W).alloc (Nat.le_refl _) _
 have CP:=Cs.new W 116 #[.int .i64 lv,.int .i64 (sq:Int),.int .i64 lo,.int .i64 hi]
 have HFL0:=Hi (HFL.out _ b0)
 have HBL0:=Hi (HBL.out _ b0)
 have HND0:=Hi (HND.out _ b0)
 have H0:=Hi (H.keep b0)
 have HB0:=Hi b0
 clear HFL HBL HND b0
 go_enter Tryz.func114,Tryz.ntmps114
 go_wp2_with fail
 refine HFL0.out.mono ?_
 rintro e w' ⟨rfl,rfl⟩
 clear HFL0
 generalize (W.alloc (.cells #[.int .i64 lv,.int .i64 (sq:Int),.int .i64 lo,.int .i64 hi] 116))=W0 at *
 obtain ⟨pb,hpb⟩ :∃q,W.heap.size=q:=⟨_,rfl⟩
 have HPB:=Hi hpb
 rw[hpb] at CP hlow ⊢
 have hW0:pb<W0.heap.size:=CP.lt
 have p0:W0.cell? ⟨pb,0,none⟩=some (.int .i64 lv):=CP.cell 0
 have p1:W0.cell? ⟨pb,1,none⟩=some (.int .i64 (sq:Int)):=CP.cell 1
 have p2:W0.cell? ⟨pb,2,none⟩=some (.int .i64 lo):=CP.cell 2
 have p3:W0.cell? ⟨pb,3,none⟩=some (.int .i64 hi):=CP.cell 3
 have z0:W0.cell? ⟨cb,0,none⟩=some (.pointer (some ⟨C,0,none⟩)):=H0.out.v.bx.cell 0
 have z1:W0.cell? ⟨C,1,none⟩=some (.int .i64 (k.bk:Int)):=H0.out.v.ck.cs.cell 1
 have z5:W0.cell? ⟨C,5,none⟩=some (.int .i64 (k.da:Int)):=H0.out.v.ck.cs.cell 5
 have z9:W0.cell? ⟨C,9,none⟩=some (.map (some k.ms)):=H0.out.v.ck.cs.cell 9
 have z10:W0.cell? ⟨C,10,none⟩=some (.map (some k.mt)):=H0.out.v.ck.cs.cell 10
 have z11:W0.cell? ⟨C,11,none⟩=some (.bool k.mp):=H0.out.v.ck.cs.cell 11
 rw[E.mp] at z11
 have hlkT:=H0.out.v.tk.look (u:Int) (by omega)
 rw[decide_eq_false hT] at hlkT
 obtain ⟨bk,hbk⟩ :∃q,k.bk=q:=⟨_,rfl⟩
 rw[hbk] at z1 e4
 have v1:IntKind.i64.wrap (u:Int)=(u:Int):=IntWalk.i64_in _ (by omega)
 have v2:IntKind.u64.wrap (B:Int)=(B:Int):=IntWalk.u64_in _ (by omega)
 have v3:IntKind.i64.wrap (2 * (a:Int))=2 * (a:Int):=IntWalk.i64_in _ (by omega)
 have c1:¬(B:Int)≤(u:Int):=by omega
 have c2:¬(u:Int)≤2 * (a:Int):=by omega
 have c3:((u:Int) == (bk:Int))=false:=by simp;omega
 obtain ⟨L,hLn⟩ :∃q,n.es.length=q:=⟨_,rfl⟩
 obtain ⟨nl,hnl2⟩ :∃q,n.lv=q:=⟨_,rfl⟩
 obtain ⟨ns,hns2⟩ :∃q,n.sq=q:=⟨_,rfl⟩
 rw[hLn,hnl2,hns2] at HND0
 have hLn7:=ho.ln
 have hnl8:=ho.f.lv
 rw[hLn] at hLn7
 rw[hnl2] at hnl8
 have HLN:=Hi hLn
 have HNL:=Hi hnl2
 have HNS:=Hi hns2
 have HO:=Hi ho
 clear hLn hnl2 hns2 ho hbk hpb
 go_wp2_with fail
 refine HBL0.out.mono ?_
 rintro e w' ⟨rfl,rfl⟩
 clear HBL0
 go_wp2_with fail
 refine (HAB.out _).mono ?_
 rintro e w' ⟨rfl,rfl⟩
 go_wp2_with fail
 refine HND0.out.mono ?_
 rintro e w1 ⟨A,c,rfl,hrd,hA,hb1⟩
 have bo:Below w1.heap.size w1 (w1.alloc (.cells #[.int .i64 (nl:Int),.int .i64 (ns:Int),.slice A L c] 129)):=(Below.refl _ w1).alloc (Nat.le_refl _) _
 have CX:=Cs.new w1 129 #[.int .i64 (nl:Int),.int .i64 (ns:Int),.slice A L c]
 have CP2:=(CP.below hb1 CP.lt).below bo (Nat.lt_of_lt_of_le CP.lt hb1.size)
 have H2:=Hi ((H0.out.keep hb1).keep bo)
 have HR2:=Hi (hrd.keep bo)
 have HB2:=Hi ((HB0.out.trans (hb1.mono HB0.out.size)).trans (bo.mono (Nat.le_trans HB0.out.size hb1.size)))
 have HA2:=Hi hA
 have hsz1:=hb1.size
 clear hrd hA hb1 bo HND0 z0 z1 z5 z9 z10 z11 hlkT p0 p1 p2 p3
 go_upto_region 10 with (fail)
 generalize (w1.alloc (.cells #[.int .i64 (nl:Int),.int .i64 (ns:Int),.slice A L c] 129))=w2 at CX CP2 H2 HR2 HB2 ⊢
 obtain ⟨nb,hnb⟩ :∃q,w1.heap.size=q:=⟨_,rfl⟩
 rw[hnb] at CX ⊢
 have HNB:=Hi hnb
 have hnbp:pb<nb:=by omega
 clear hnb
 have z0:w2.cell? ⟨cb,0,none⟩=some (.pointer (some ⟨C,0,none⟩)):=H2.out.v.bx.cell 0
 have z9:w2.cell? ⟨C,9,none⟩=some (.map (some k.ms)):=H2.out.v.ck.cs.cell 9
 have hlk:=H2.out.v.sn.look u (by omega)
 have HCX:=Hi CX
 have HCP:=Hi CP2
 have n0:w2.cell? ⟨nb,0,none⟩=some (.int .i64 (nl:Int)):=CX.cell 0
 have n2:w2.cell? ⟨nb,2,none⟩=some (.slice A L c):=CX.cell 2
 clear CX CP2 CP
 rcases hfu:f u with _|cv
 ·rw[hfu] at hlk
  simp only[Option.getD_none,Option.isSome_none,Int.natCast_zero] at hlk
  have HFU:=Hi hfu
  clear hfu
  have HV:=Hi hv
  have HNE:Hid ((¬(nb=rg∨nb=k.ms))∧¬(pb=rg∨pb=k.ms)):=by
   refine ⟨fun q=>?_,fun q=>?_⟩ <;> rcases q with q|q <;> omega
  have hnE:Hid (n.lv=0→G.E u=n.es):=fun q=>by rw[HO.out.e];unfold eOf;rw[if_pos q]
  have HI:=Hi IH
  have HR0:=Hi hr
  have HEE:=Hi hE
  have HLL:=Hi hL
  have HE0:=Hi E
  have HDT:Hid (∀d∈dats true n,d<rl.length):=fun d hd=>by
   unfold dats at hd
   split at hd
   ·rename_i q
    obtain ⟨x,hx,rfl⟩:=List.mem_map.1 hd
    have:=(hE x (by rw[hnE.out q.1];exact hx)).1
    rw[H2.out.v.rl]
    exact this
   ·cases hd
  have HFIN:=Hi (fun fi rli (q:VR N G len n f rl L fi rli)=>q.fin hv (by rw[HLN.out];exact Nat.le_refl _) hn e5 hk HFU.out HDT.out)
  clear hv IH hr hE hL E hT hp hn hk
  go_wp2_with fail
  clear z0 z9 hlk
  go_loopw [13,14,15,16,100] (fun s13 _ _ _ s100 wr=>∃(i:Nat) (fi:Nat→Option Nat) (rli:List Nat),i≤L∧s13=.int .i64 (tlN G n i:Int)∧s100=.int .i64 (i:Int)∧Hid (VsIn wr C cb vb lb cl k ws rg rli len fi nt T)∧Hid (VR N G len n f rl i fi rli)∧Hid (Fr (fun j=>j=rg∨j=k.ms) w2 wr)) (fun _ _ _ _ s100 _=>L - (intOf s100).toNat)
  case atStart=>exact ⟨0,f,rl,Nat.zero_le _,by rw[tlN_zero];rfl,rfl,H2.out,VR.start HV.out,Fr.refl _ _⟩
  case round=>
   obtain ⟨i,fi,rli,hiL,rfl,rfl,hst,hvr,hfr⟩:=hrel
   have hN:=HCX.out.fr hfr.out HNE.out.1
   have hP:=HCP.out.fr hfr.out HNE.out.2
   have hRd:=HR2.out.fr hfr.out (fun h0 p hp q=>by have:=HA2.out p hp;rcases q with q|q <;> omega)
   obtain ⟨tt,htt⟩ :∃q,tlN G n i=q:=⟨_,rfl⟩
   have HTT:=Hi htt
   rw[htt]
   have n2:wr.cell? ⟨nb,2,none⟩=some (.slice A L c):=hN.cell 2
   by_cases hlt:i<L
   ·have u1:(i:Int)<(L:Int):=by omega
    obtain ⟨ab,ao,rfl,hal,hcl⟩:=hRd.e (by rw[HLN.out];omega)
    obtain ⟨hk1,hv1⟩:=hcl i (by rw[HLN.out];exact hlt)
    obtain ⟨key,hkey⟩ :∃q,(n.es[i]?.getD (0,0)).1=q:=⟨_,rfl⟩
    obtain ⟨vv,hvv⟩ :∃q,(n.es[i]?.getD (0,0)).2=q:=⟨_,rfl⟩
    rw[hkey] at hk1
    rw[hvv] at hv1
    have hkA:key∈G.A u:=by
     rw[HO.out.a,←hkey]
     exact aOf_mem.2 (.inl ⟨_,by rw[getD_mem (by rw[HLN.out];exact hlt)];exact List.getElem_mem _,rfl⟩)
    obtain ⟨t1,t2⟩:=HR0.out key hkA
    have HLV:Hid (nl=0→dOf vv<k.da∧vv / 16777216 % 1048576≤k.ti∧vv<18446744073709551616):=fun q=>by
     rw[←hvv]
     refine HEE.out _ ?_
     rw[hnE.out (by rw[HNL.out];exact q),getD_mem (by rw[HLN.out];exact hlt)]
     exact List.getElem_mem _
    have HSM:Hid (rli[dOf vv]?.getD 0≤7 * len+7):=hvr.out.small HV.out (fun x m hm=>(HE0.out.nd x m hm).2.2.2.2.2.ln) (by rw[HLN.out];exact hLn7) HDT.out _
    have htle:=tlN_le (G:=G) (n:=n) i
    rw[←HO.out.e,htt] at htle
    have htl2:tt≤1000000:=Nat.le_trans htle HLL.out
    have HKEY:=Hi hkey
    have HVV:=Hi hvv
    have ba:Below wr.heap.size wr (wr.alloc (.cells #[.int .i64 key,.int .u64 (vv:Int)] 94)):=(Below.refl _ wr).alloc (Nat.le_refl _) _
    have CE:=Cs.new wr 94 #[.int .i64 key,.int .u64 (vv:Int)]
    have HS3:=Hi (hst.out.keep ba)
    have HF3:Hid (Fr (fun j=>j=rg∨j=k.ms) w2 _):=hfr.out.trans (Fr.of_below ba)
    have hN3:=hN.below ba hN.lt
    have hP3:=hP.below ba hP.lt
    have hwrs:=hfr.out.size
    have HR3:=Hi (hRd.keep ba)
    have e1:IntKind.i64.wrap ((i:Int)+1)=((i+1:Nat):Int):=by rw[IntWalk.i64_in _ (by omega)];rfl
    have e2:IntKind.i64.wrap ((tt:Int)+1)=((tt+1:Nat):Int):=by rw[IntWalk.i64_in _ (by omega)];rfl
    clear htle hkey hvv hkA ba hN hP hcl htt hRd hst hfr
    go_upto_region 19 with (fail)
    generalize (wr.alloc (.cells #[.int .i64 key,.int .u64 (vv:Int)] 94))=w3 at CE HS3 HF3 hN3 hP3 HR3 ⊢
    obtain ⟨eb,heb⟩ :∃q,wr.heap.size=q:=⟨_,rfl⟩
    rw[heb] at CE hal ⊢
    clear heb hk1 hv1 n2
    have z0:w3.cell? ⟨cb,0,none⟩=some (.pointer (some ⟨C,0,none⟩)):=HS3.out.v.bx.cell 0
    have zv:w3.cell? ⟨vb,0,none⟩=some (.func (.func 114) #[] #[.pointer (some ⟨cb,0,none⟩),.pointer (some ⟨vb,0,none⟩),.pointer (some ⟨lb,0,none⟩)]):=HS3.out.bv.cell 0
    have zl:w3.cell? ⟨lb,0,none⟩=some (.func (.func 77) #[] #[.pointer (some ⟨cl,0,none⟩)]):=HS3.out.bl.cell 0
    have n0:w3.cell? ⟨nb,0,none⟩=some (.int .i64 (nl:Int)):=hN3.cell 0
    have n1:w3.cell? ⟨nb,1,none⟩=some (.int .i64 (ns:Int)):=hN3.cell 1
    have n2:w3.cell? ⟨nb,2,none⟩=some (.slice (some ⟨ab,ao,none⟩) L c):=hN3.cell 2
    have p2:w3.cell? ⟨pb,2,none⟩=some (.int .i64 lo):=hP3.cell 2
    have p3:w3.cell? ⟨pb,3,none⟩=some (.int .i64 hi):=hP3.cell 3
    have q0:w3.cell? ⟨eb,0,none⟩=some (.int .i64 key):=CE.cell 0
    have q1:w3.cell? ⟨eb,1,none⟩=some (.int .u64 (vv:Int)):=CE.cell 1
    have t3:¬key<lo:=by omega
    have t4:¬hi≤key:=by omega
    clear CE hN3 hP3
    by_cases h1:i+1<L
    ·have d1:((i+1:Nat):Int)<(L:Int):=by omega
     obtain ⟨nk,hnk⟩ :∃q,(n.es[i+1]?.getD (0,0)).1=q:=⟨_,rfl⟩
     have HNK:=Hi hnk
     have q3:w3.cell? ⟨ab,ao+(i+1) * 2,none⟩=some (.int .i64 nk):=by
      obtain ⟨ab',ao',he,-,hcl⟩:=HR3.out.e (by rw[HLN.out];omega)
      injection he with he
      injection he with he1 he2
      subst he1 he2
      rw[←hnk]
      exact (hcl (i+1) (by rw[HLN.out];exact h1)).1
     clear hnk
     by_cases hl0:nl=0
     ·have HLF:=Hi (ckleaf_any w3 C cl k ws rg rli len fi nt T (HS3.out.v.box HS3.out.bc HS3.out.a3.2.2.2.2.1 HS3.out.a3.2.2.2.2.2) key vv (HLV.out hl0).2.2 (HLV.out hl0).1 (HLV.out hl0).2.1 (Nat.le_trans HSM.out (by omega)) HE0.out.da)
      have HNX:=Hi (hvr.out.leaf (by rw[HNL.out];exact hl0) (by rw[HLN.out];exact hlt))
      have HTL:Hid (tlN G n (i+1)=tt+1):=by show _=_;rw[←HTT.out,tlN_leaf (by rw[HNL.out];exact hl0) (by rw[HLN.out];omega),tlN_leaf (by rw[HNL.out];exact hl0) (by rw[HLN.out];omega)]
      rw[HVV.out] at HNX
      have d2:¬(0:Int)<(nl:Int):=by omega
      clear hl0
      go_wp2_with fail
      refine HLF.out.mono ?_
      rintro e w4 ⟨rfl,hv4,hf4⟩
      have hf4':Fr (fun j=>j=rg∨j=k.ms) w3 w4:=hf4.mono (fun j _ e=>.inl e)
      have HS4:=Hi (HS3.out.rest (hv4.box (HS3.out.v.bx.fr hf4 (fun e=>HS3.out.v.a1.2.1 e.symm)) (fun e=>HS3.out.v.a1.2.1 e.symm) (fun e=>HS3.out.v.a2.2.1 e.symm)) hf4')
      have HF4:=Hi (HF3.out.trans hf4')
      clear hv4 hf4 hf4' HLF
      go_wp2_with fail
      go_roundw
      case rel=>exact ⟨i+1,_,_,hlt,by rw[HTL.out];rfl,by go_num,HS4.out,HNX.out,HF4.out⟩
      case measure=>simp[intOf];omega
     ·have hl1:n.lv≠0:=by rw[HNL.out];exact hl0
      have hi1:i<n.es.length:=by rw[HLN.out];exact hlt
      have hmem:n.es[i]?.getD (0,0)∈n.es:=by rw[getD_mem hi1];exact List.getElem_mem _
      obtain ⟨m,hm,hml,-,-⟩:=HO.out.f.kid hl1 _ hmem
      have hne:m.es≠[]:=fun q=>HO.out.f.kn hl1 _ hmem (by
       have h5:=(HE0.out.nd _ m hm).2.2.2.2.2.a
       rw[h5]
       unfold aOf
       rw[q]
       simp)
      have hpk:PlOk m (nl:Int) ns:=⟨.inr ⟨by have:=HNL.out;omega,hne⟩,by have:=HO.out.ks _ m (kid_mem hl1 hmem) hm;have:=HNS.out;omega⟩
      have hrk:=kid_rng HO.out HR0.out hl1 hi1
      rw[if_pos (by rw[HLN.out];exact h1),HKEY.out,HVV.out,HNK.out] at hrk
      have hch:=HI.out hl1 _ hmem m hm
      rw[HVV.out] at hch
      have HCH:=Hi (hch w3 fi rli (nl:Int) ns key nk HS3.out (hvr.out.inn hl1).1 hpk hrk)
      have hts:=tlN_succ (G:=G) hl1 hi1
      have htl:=tlN_le (G:=G) (n:=n) (i+1)
      rw[←HO.out.e] at htl
      have hLL:=HLL.out
      rw[HTT.out,HVV.out] at hts
      obtain ⟨cy,hcy⟩ :∃q,(G.E vv).length=q:=⟨_,rfl⟩
      rw[hcy] at HCH hts
      have HTS:=Hi hts
      have HL1:=Hi hl1
      have e3:IntKind.i64.wrap ((tt:Int)+(cy:Int))=((tt+cy:Nat):Int):=by rw[IntWalk.i64_in _ (by omega)];omega
      have d2:(0:Int)<(nl:Int):=by omega
      clear hl0 hl1 hi1 hmem hm hml hne hpk hrk hch hts htl hLL hcy
      go_wp2_with fail
      refine HCH.out.mono ?_
      rintro e w4 ⟨rfl,f4,rl4,hs4,hv4,hk4,hm4,hf4⟩
      have HS4:=Hi hs4
      have HF4:=Hi (HF3.out.trans hf4)
      have hnx:=hvr.out.node HL1.out hv4 (by rw[HVV.out];exact hk4) hm4
      have HNX:=Hi hnx
      clear hs4 hv4 hk4 hm4 hf4 hnx HCH
      go_wp2_with fail
      go_roundw
      case rel=>exact ⟨i+1,f4,rl4,hlt,by rw[HTS.out];rfl,by go_num,HS4.out,HNX.out,HF4.out⟩
      case measure=>simp[intOf];omega
    ·have d1:¬((i+1:Nat):Int)<(L:Int):=by omega
     by_cases hl0:nl=0
     ·have HLF:=Hi (ckleaf_any w3 C cl k ws rg rli len fi nt T (HS3.out.v.box HS3.out.bc HS3.out.a3.2.2.2.2.1 HS3.out.a3.2.2.2.2.2) key vv (HLV.out hl0).2.2 (HLV.out hl0).1 (HLV.out hl0).2.1 (Nat.le_trans HSM.out (by omega)) HE0.out.da)
      have HNX:=Hi (hvr.out.leaf (by rw[HNL.out];exact hl0) (by rw[HLN.out];exact hlt))
      have HTL:Hid (tlN G n (i+1)=tt+1):=by show _=_;rw[←HTT.out,tlN_leaf (by rw[HNL.out];exact hl0) (by rw[HLN.out];omega),tlN_leaf (by rw[HNL.out];exact hl0) (by rw[HLN.out];omega)]
      rw[HVV.out] at HNX
      have d2:¬(0:Int)<(nl:Int):=by omega
      clear hl0
      go_wp2_with fail
      refine HLF.out.mono ?_
      rintro e w4 ⟨rfl,hv4,hf4⟩
      have hf4':Fr (fun j=>j=rg∨j=k.ms) w3 w4:=hf4.mono (fun j _ e=>.inl e)
      have HS4:=Hi (HS3.out.rest (hv4.box (HS3.out.v.bx.fr hf4 (fun e=>HS3.out.v.a1.2.1 e.symm)) (fun e=>HS3.out.v.a1.2.1 e.symm) (fun e=>HS3.out.v.a2.2.1 e.symm)) hf4')
      have HF4:=Hi (HF3.out.trans hf4')
      clear hv4 hf4 hf4' HLF
      go_wp2_with fail
      go_roundw
      case rel=>exact ⟨i+1,_,_,hlt,by rw[HTL.out];rfl,by go_num,HS4.out,HNX.out,HF4.out⟩
      case measure=>simp[intOf];omega
     ·have hl1:n.lv≠0:=by rw[HNL.out];exact hl0
      have hi1:i<n.es.length:=by rw[HLN.out];exact hlt
      have hmem:n.es[i]?.getD (0,0)∈n.es:=by rw[getD_mem hi1];exact List.getElem_mem _
      obtain ⟨m,hm,hml,-,-⟩:=HO.out.f.kid hl1 _ hmem
      have hne:m.es≠[]:=fun q=>HO.out.f.kn hl1 _ hmem (by
       have h5:=(HE0.out.nd _ m hm).2.2.2.2.2.a
       rw[h5]
       unfold aOf
       rw[q]
       simp)
      have hpk:PlOk m (nl:Int) ns:=⟨.inr ⟨by have:=HNL.out;omega,hne⟩,by have:=HO.out.ks _ m (kid_mem hl1 hmem) hm;have:=HNS.out;omega⟩
      have hrk:=kid_rng HO.out HR0.out hl1 hi1
      rw[if_neg (by rw[HLN.out];exact h1),HKEY.out,HVV.out] at hrk
      have hch:=HI.out hl1 _ hmem m hm
      rw[HVV.out] at hch
      have HCH:=Hi (hch w3 fi rli (nl:Int) ns key hi HS3.out (hvr.out.inn hl1).1 hpk hrk)
      have hts:=tlN_succ (G:=G) hl1 hi1
      have htl:=tlN_le (G:=G) (n:=n) (i+1)
      rw[←HO.out.e] at htl
      have hLL:=HLL.out
      rw[HTT.out,HVV.out] at hts
      obtain ⟨cy,hcy⟩ :∃q,(G.E vv).length=q:=⟨_,rfl⟩
      rw[hcy] at HCH hts
      have HTS:=Hi hts
      have HL1:=Hi hl1
      have e3:IntKind.i64.wrap ((tt:Int)+(cy:Int))=((tt+cy:Nat):Int):=by rw[IntWalk.i64_in _ (by omega)];omega
      have d2:(0:Int)<(nl:Int):=by omega
      clear hl0 hl1 hi1 hmem hm hml hne hpk hrk hch hts htl hLL hcy
      go_wp2_with fail
      refine HCH.out.mono ?_
      rintro e w4 ⟨rfl,f4,rl4,hs4,hv4,hk4,hm4,hf4⟩
      have HS4:=Hi hs4
      have HF4:=Hi (HF3.out.trans hf4)
      have hnx:=hvr.out.node HL1.out hv4 (by rw[HVV.out];exact hk4) hm4
      have HNX:=Hi hnx
      clear hs4 hv4 hk4 hm4 hf4 hnx HCH
      go_wp2_with fail
      go_roundw
      case rel=>exact ⟨i+1,f4,rl4,hlt,by rw[HTS.out];rfl,by go_num,HS4.out,HNX.out,HF4.out⟩
      case measure=>simp[intOf];omega
   ·obtain rfl:i=L:=by omega
    have u1:¬(i:Int)<(i:Int):=by omega
    obtain rfl:tt=(G.E u).length:=by rw[HO.out.e,←HTT.out];exact tlN_all (by rw[HLN.out];exact Nat.le_refl _)
    have z0:wr.cell? ⟨cb,0,none⟩=some (.pointer (some ⟨C,0,none⟩)):=hst.out.v.bx.cell 0
    have z9:wr.cell? ⟨C,9,none⟩=some (.map (some k.ms)):=hst.out.v.ck.cs.cell 9
    obtain ⟨w5,hrun,hsn,hfs⟩:=hst.out.v.sn.store (b:=u) e5 (by omega) (G.E u).length
    have hf5:Fr (fun j=>j=rg∨j=k.ms) wr w5:=hfs.mono (fun j _ e=>.inr e)
    have HS5:=Hi (hst.out.rest (hst.out.v.seen hsn hfs) hf5)
    have HF5:=Hi (((Fr.of_below HB2.out:Fr (fun j=>j=rg∨j=k.ms) W w2).trans hfr.out).trans hf5)
    have HV5:=Hi (HFIN.out _ _ hvr.out)
    have HUP:=Hi hvr.out.up
    obtain ⟨tt,htt⟩ :∃q,(G.E u).length=q:=⟨_,rfl⟩
    rw[htt] at hrun HS5 HV5
    have HTE:=Hi htt
    rw[htt]
    clear hsn hfs hf5 hst hfr hvr hN hP hRd HTT htt
    go_wp2_with fail
    go_ret
    exact ⟨by rw[HTE.out];rfl,_,_,HS5.out,HV5.out,(by rw[if_pos rfl];simp),fun x hx=>(by split;simp;exact HUP.out x hx),HF5.out⟩
 ·rw[hfu] at hlk
  simp only[Option.getD_some,Option.isSome_some] at hlk
  have HCV:=Hi (hv.val u cv hfu hk).1
  have HFU:=Hi hfu
  have HV:=Hi hv
  clear hfu hv
  go_wp2_with fail
  go_ret
  exact ⟨by rw[HCV.out];rfl,f,rl,H2.out,HV.out,(by rw[HFU.out];simp),fun _ hx=>hx,Fr.of_below HB2.out⟩
end
end Go.Proofs.YtplhdjdkobddnaaGreat
