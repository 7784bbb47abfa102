/- LawCounts29 -/
import Derived.Test.YtplhdjdkobddnaaGreatTr48
set_option linter.unusedVariables false
set_option maxRecDepth 100000
set_option maxHeartbeats 40000000
namespace Go.Proofs.YtplhdjdkobddnaaGreat
section
open Go.RowKit
attribute [local go_sem] Oper.semAt_some
theorem own_place {W:World} {base:Nat} {e:TypeId} {size n:Nat} {v:Value} {xs:List Value} (h:W.ownsRow base e size v n xs) (hn:n≠0):∃g c,v=.slice (some ⟨g,0,none⟩) n c:=by
 rcases h.2 with ⟨h1,h2⟩| ⟨g',cap,cur,hv,_⟩
 ·exact absurd h2 (by first|exact hn|(intro q;exact hn (by simpa using q)))
 ·exact ⟨g',cap,hv⟩
def Mt.hd (m:Mt):Hdr:=⟨m.seq,m.time,m.data,m.chunk,m.area,m.tree,shortC (extendC 0 (arW m.S.da.now))⟩
theorem hd_ok {m:Mt} {N:Nat} {G:Gh} (hx:MtX m m.dv N N 6 G):HdrOk m.hd m.root m.ws.length:=by
 have hzr:zM m.data m.root m.root=true:=by unfold zM;simp
 have hroot:=Mp.lt_of_count (show m.S.bl.count m.root≠0 by rw[(hx.z1 _ hzr).1];omega)
 rw[hx.bn] at hroot
 have h1:=hx.sl
 have h2:=hx.tl
 have h3:=hx.nn
 have h4:=hx.rl
 exact ⟨by show m.seq≤_;omega,by show m.time≤_;omega,hx.d1,hx.d2,hx.c1,hx.c2,hx.ar,hx.sz,by show 2 * arB m.data<_;omega,hroot⟩
theorem counts29_any (A:Option Addr) (c n:Nat) (l:List Int) (w:World) (hN:l.length=n) (hA:Reads w A (iv l)) (hw:I64 l) (hl:n≤c) :
  Calls Tryz.prog 6 #[.slice A n c] w fun e w'=>e=.returned (.bool true)∧Below w.heap.size w w':=by
 have HNW:=Hi (new_any A n c l w hN hA hw hl)
 clear hN hA hw hl
 go_enter Tryz.func6,Tryz.ntmps6
 go_wp2_with fail
 refine HNW.out.mono ?_
 rintro e w1 ⟨rfl,hs1,hb1,hz1⟩
 have HB1:=Hi hb1
 have HZ1:=Hi hz1
 have HS1:=Hi hs1
 clear hs1 hb1 hz1 HNW
 go_wp2_with fail
 refine (n_any w.heap.size 40 _ HS1.out (by omega) (by omega)).mono ?_
 rintro e w2 ⟨xI,rfl,hx1,hx2,hs2,hg2⟩
 obtain ⟨x,rfl⟩ :∃d:Nat,xI=(d:Int):=⟨xI.toNat,by omega⟩
 have HMD:=Hi (made29_any w2 w.heap.size x hs2 (by omega))
 have HG2:=Hi hg2
 have HZ2:Hid (w1.heap.size≤w2.heap.size):=hg2.size
 clear hs2 hg2
 go_wp2_with fail
 refine HMD.out.mono ?_
 rintro e w3 ⟨gw,c3,M,m,rfl,hgw,hmw,hy,hc,hs3,hg3,-⟩
 have HB3:Hid (Below w.heap.size w w3):=by
  have h1:=HZ1.out
  have h2:=HB1.out
  have h3:=gb_trans HG2.out hg3
  exact ⟨h3.os.trans h2.os,h3.tape.trans h2.tape,h3.output.trans h2.output,Nat.le_trans h2.size h3.size,fun j hj=>(h3.block j (by omega) (fun e=>by injection e with e;omega)).trans (h2.block j hj)⟩
 obtain ⟨s0,hs0⟩ :∃q,w.heap.size=q:=⟨_,rfl⟩
 have hsg:s0<gw:=by have:=HZ1.out;have:=HZ2.out;omega
 rw[hs0] at hs3 ⊢
 have HS3:=Hi hs3
 have HS0:=Hi hs0
 have hrow:=hmw.row
 have hcap:=own_cap hrow
 obtain ⟨G,hx⟩:=hy.ex
 have hko:=hd_ok hx
 have HRO:=Hi (fun w (hrow:w.ownsRow 0 39 1 (.slice (some ⟨gw,0,none⟩) m.ws.length c3) m.ws.length (uv m.ws))=>rroot_ok gw m.ws.length c3 m.root m.ws m.hd w rfl hrow hx.w6 (by have:=hx.wl;omega) hko hc.rb (by have:=hx.tree_lt;show m.tree<_;omega) (sum_lt _))
 have hfit:=ar_fit hx
 have hd1:=hx.d1
 have hd2:=hx.d2
 have hwl:=hx.wl
 have hrb:m.root<4096:=by have:=hko.lt;unfold blN at this;omega
 have hb16:(m.root+1) * 16≤m.ws.length:=by have:=hko.lt;unfold blN at this;omega
 obtain ⟨f1,f2⟩:=cw_fields m.root m.seq (by omega) (by have:=hx.sl;have:=hx.nn;omega)
 have f3:=cwOk_W m.root m.seq (by omega) (by have:=hx.sl;have:=hx.nn;omega)
 have hFW:=fun w=>rfrom27_any (cwW m.root m.seq) w (cwW_lt _ _)
 rw[f1,f2,f3] at hFW
 have HFW:=Hi hFW
 have x0:w3.cell? ⟨gw,0,none⟩=some (.int .u64 ((cwW m.root m.seq:Nat):Int)):=by
  have:=hrow.cellAt 0 (by omega)
  rw[uv_at m.ws 0 (by omega),hc.w0] at this
  exact this
 obtain ⟨cw,hcw⟩ :∃q,cwW m.root m.seq=q:=⟨_,rfl⟩
 rw[hcw] at HFW x0
 have HRW:=Hi hrow
 have HX:=Hi hx
 have HCM:=Hi hc
 have HY:=Hi hy
 have HDT:=Hi hmw.dt
 have HB3':=HB3
 have hnz:0<m.ws.length:=by omega
 obtain ⟨nw,hnw⟩ :∃q,m.ws.length=q:=⟨_,rfl⟩
 have HNWS:=Hi hnw
 rw[hnw] at HRO HRW hfit hwl hb16 hcap hnz ⊢
 clear hgw hmw hy hc hs3 hg3 HMD hrow hx hko hFW f1 f2 f3 hcw hnw HB1 HZ1 HS1 HG2 HZ2 hs0 hx1 hx2
 have hv:m.hd.v=.agg #[.int .i64 (m.seq:Int),.int .i64 (m.time:Int),.int .i64 (m.data:Int),.int .i64 (m.chunk:Int),.int .i64 (m.area:Int),.int .u64 (m.tree:Int),.int .u64 ((shortC (extendC 0 (arW m.S.da.now)):Nat):Int)]:=rfl
 obtain ⟨sm,hsm⟩ :∃q,shortC (extendC 0 (arW m.S.da.now))=q:=⟨_,rfl⟩
 rw[hsm] at hv
 rw[hv] at HRO
 clear hv hsm
 go_wp2_with fail
 refine (HFW.out _).mono ?_
 rintro e w4 ⟨rfl,hb4⟩
 have HRW4:=Hi (own_keepU' HRW.out hb4)
 have HB4:=Hi (HB3.out.trans (hb4.mono HB3.out.size))
 have HS4:=Hi (HS3.out.keep hb4)
 clear hb4 x0
 go_wp2_with fail
 refine (HRO.out _ HRW4.out).mono ?_
 rintro e w5 ⟨rfl,hb5⟩
 have bo:Below w5.heap.size w5 (w5.alloc (.cells #[.int .i64 (m.seq:Int),.int .i64 (m.time:Int),.int .i64 (m.data:Int),.int .i64 (m.chunk:Int),.int .i64 (m.area:Int),.int .u64 (m.tree:Int),.int .u64 (sm:Int)] 41)):=(Below.refl _ w5).alloc (Nat.le_refl _) _
 have CX:=Cs.new w5 41 #[.int .i64 (m.seq:Int),.int .i64 (m.time:Int),.int .i64 (m.data:Int),.int .i64 (m.chunk:Int),.int .i64 (m.area:Int),.int .u64 (m.tree:Int),.int .u64 (sm:Int)]
 have hbb:=hb5.trans (bo.mono hb5.size)
 have HRW6:=Hi (own_keepU' HRW4.out hbb)
 have HB6:=Hi (HB4.out.trans (hbb.mono HB4.out.size))
 have HS6:=Hi (HS4.out.keep hbb)
 have hs05:s0<w5.heap.size:=by have:=HS4.out.lt;have:=hb5.size;omega
 have hgw5:gw<w5.heap.size:=by have:=own_lt HRW4.out gw rfl;have:=hb5.size;omega
 clear hb5 bo hbb
 go_upto_region 7 with (fail)
 generalize (w5.alloc (.cells #[.int .i64 (m.seq:Int),.int .i64 (m.time:Int),.int .i64 (m.data:Int),.int .i64 (m.chunk:Int),.int .i64 (m.area:Int),.int .u64 (m.tree:Int),.int .u64 (sm:Int)] 41))=w6 at CX HRW6 HB6 HS6 ⊢
 obtain ⟨hb,hhb⟩ :∃q,w5.heap.size=q:=⟨_,rfl⟩
 rw[hhb] at CX hs05 hgw5 ⊢
 clear hhb
 have y2:w6.cell? ⟨hb,2,none⟩=some (.int .i64 (m.data:Int)):=CX.cell 2
 have y4:w6.cell? ⟨hb,4,none⟩=some (.int .i64 (m.area:Int)):=CX.cell 4
 have HCX:=Hi CX
 obtain ⟨aa,haa⟩ :∃q,arAt m.data m.area=q:=⟨_,rfl⟩
 obtain ⟨ab,hab⟩ :∃q,arB m.data=q:=⟨_,rfl⟩
 have HAE:Hid (arAt m.data m.area=aa∧arB m.data=ab):=⟨haa,hab⟩
 have hab1:1≤ab∧ab≤300:=by rw[←hab];unfold arB;omega
 rw[haa,hab] at hfit
 have HAO:Hid (∀w,Calls Tryz.prog 16 #[.slice (some ⟨gw,0,none⟩) nw c3,.int .i64 (m.data:Int),.int .i64 (m.area:Int)] w fun e w'=>e=.returned (.slice (some ⟨gw,aa,none⟩) (ab * 16) (c3 - aa))∧w=w'):=fun w=>by
  have:=rareaof_any ⟨gw,0,none⟩ nw c3 m.data m.area w hd2 hd1 HX.out.ar (by rw[haa,hab];exact hfit) hcap (by omega)
  rw[Addr.add_lit,haa,hab,Nat.zero_add] at this
  exact this
 have hal:(arOf m.ws m.data m.area).length=ab * 16:=by rw[←hab];exact arOf_len (by rw[haa,hab,HNWS.out];exact hfit)
 have hrd:Reads w6 (some ⟨gw,aa,none⟩) (uv (arW m.S.da.now)):=by
  have:=arOf_reads HRW6.out HNWS.out (data:=m.data) (area:=m.area) (by rw[haa,hab];exact hfit)
  rw[haa,HCM.out.ar] at this
  exact this
 have hwl':(arW m.S.da.now).length=ab * 16:=by rw[←HCM.out.ar];exact hal
 have hsm:=da_small HX.out HCM.out
 have HST:=Hi (fun w (hr:Reads w (some ⟨gw,aa,none⟩) (uv (arW m.S.da.now)))=>rstored_any (some ⟨gw,aa,none⟩) (ab * 16) (c3 - aa) m.data (arW m.S.da.now) w hwl' hr (arW_w _ (fun x hx=>by have:=hsm x hx;omega)) hd2 (by rw[hab];exact Nat.le_refl _) (by omega))
 have hcts:ctsN (arW m.S.da.now) m.data=m.S.da.now:=by
  have:=cts_arW m.S.da.now (fun x hx=>by have:=hsm x hx;omega)
  rw[HX.out.dn] at this
  exact this
 rw[hcts] at HST
 have HRD:=Hi hrd
 clear CX hal hrd hwl' hsm hcts haa hab HRO HFW
 go_wp2_with fail
 refine (HAO.out _).mono ?_
 rintro e w' ⟨rfl,rfl⟩
 go_wp2_with fail
 refine (HST.out _ HRD.out).mono ?_
 rintro e w7 ⟨v7,rfl,hown7,hb7⟩
 obtain ⟨gs,cs,hv7⟩:=own_place hown7 (by omega)
 subst hv7
 have hgs:=own_base hown7 gs rfl
 have HO7:=Hi (own_lower hown7 (Nat.zero_le _))
 have HRW7:=Hi (own_keepU' HRW6.out hb7)
 have HCX7:=Hi (HCX.out.below hb7 HCX.out.lt)
 have HB7:=Hi (HB6.out.trans (hb7.mono HB6.out.size))
 have HS7:=Hi (HS6.out.keep hb7)
 have hhb6:hb<w6.heap.size:=HCX.out.lt
 have y2b:w7.cell? ⟨hb,2,none⟩=some (.int .i64 (m.data:Int)):=HCX7.out.cell 2
 clear hown7 hb7 y2 y4 HST
 go_wp2_with fail
 refine (n_any s0 (m.data:Int) _ HS7.out (by omega) (by omega)).mono ?_
 rintro e w8 ⟨dI,rfl,hd1',hd2',hs8,hg8⟩
 obtain ⟨d,rfl⟩ :∃q:Nat,dI=(q:Int):=⟨dI.toNat,by omega⟩
 have hdd:d<m.data:=by omega
 have hf8:=gb_fr hg8
 have HO8:=Hi (own_fr HO7.out hf8 (fun b hb e=>by simp[Value.ownBlock] at hb;omega))
 have HRW8:=Hi (own_fr HRW7.out hf8 (fun b hb e=>by simp[Value.ownBlock] at hb;omega))
 have HCX8:=Hi (HCX7.out.fr hf8 (fun e=>by omega))
 have HS8:=Hi hs8
 have HF8:Hid (Fr (fun j=>j=s0∨j=gw∨j=gs) w7 w8):=hf8.mono (fun j _ e=>.inl e)
 clear hs8 hg8 hf8 y2b
 go_wp2_with fail
 obtain ⟨ct,hct⟩ :∃q,m.S.da.count d=q:=⟨_,rfl⟩
 have hct4:ct≤40000:=by
  have h3:m.S.da.count d=m.S.da.now[d]'(by rw[HX.out.dn];exact hdd):=by
   unfold Mp.count
   rw[List.getElem?_eq_getElem (by rw[HX.out.dn];exact hdd)]
   rfl
  rw[←hct,h3]
  exact da_small HX.out HCM.out _ (List.getElem_mem _)
 have z8:w8.cell? ⟨gs,d,none⟩=some (.int .i64 (ct:Int)):=by
  have:=HO8.out.cellAt d (by omega)
  rw[nv_at _ _ (by rw[HX.out.dn];exact hdd)] at this
  rw[←hct]
  exact this
 have HCT:=Hi hct
 have hgs8:gs<w8.heap.size:=own_lt HO8.out gs rfl
 have hgs6:s0<gs∧gw<gs∧hb<gs:=by omega
 clear hct
 refine wp_region_scr [(true,0),(true,1),(true,2),(true,3),(true,4),(false,5)] [6,7,8] 6 (by kernel_rfl) (by decide +kernel) (fun w=>w.cell? ⟨gs,d,none⟩=some (.int .i64 (ct:Int))) z8 ?_
 simp only[pickS,pickL,List.getElem?_toArray,List.getElem?_cons_zero,List.getElem?_cons_succ]
 iterate 5
  refine ⟨?_,Or.inl ⟨by rfl,fun W' hS'=>?_⟩,fun _ _ _ h=>h,?_⟩
  rotate_left
  ·have hS2:W'.cell? ⟨gs,d,none⟩=some (.int .i64 (ct:Int)):=hS'
   go_simp
   with_reducible rfl
  simp only[Act.put,List.setIfInBounds_toArray,List.set_cons_zero,List.set_cons_succ]
 refine wpScr_step (fun K hK=>?_)
 go_simp
 go_at_call 20
 refine (range_any s0 1 9 _ (HS8.out.keep (Below.refl _ w8).drew) (by omega) (by omega) (by omega)).mono ?_
 rintro e w9 ⟨rI,rfl,hr1,hr2,hs9,hg9⟩
 obtain ⟨r,rfl⟩ :∃q:Nat,rI=(q:Int):=⟨rI.toNat,by omega⟩
 have hf9:Fr (fun j=>j=s0) w8 w9:=(Fr.refl (fun j=>j=s0) w8).drew.trans (gb_fr hg9)
 have z9:w9.cell? ⟨gs,d,none⟩=some (.int .i64 (ct:Int)):=(hf9.cell (i:=d) hgs8 (by omega)).trans z8
 refine hK _ _ z9 ?_
 clear hK K
 have hr9:1≤r∧r≤9:=by omega
 have HO9:=Hi (own_fr HO8.out hf9 (fun b hb e=>by simp[Value.ownBlock] at hb;omega))
 have HRW9:=Hi (own_fr HRW8.out hf9 (fun b hb e=>by simp[Value.ownBlock] at hb;omega))
 have HCX9:=Hi (HCX8.out.fr hf9 (fun e=>by omega))
 have HF9:Hid (Fr (fun j=>j=s0∨j=gw∨j=gs) w7 w9):=HF8.out.trans (hf9.mono (fun j _ e=>.inl e))
 have fz:=HO9.out.frozenAt d
 have e9:IntKind.i64.wrap ((ct:Int)+(r:Int))=(ct:Int)+(r:Int):=IntWalk.i64_in _ (by omega)
 have ho10:=(HO9.out.stored d (.int .i64 ((ct+r:Nat):Int))).1
 rw[nv_set,show ((ct+r:Nat):Int)=(ct:Int)+(r:Int) from rfl] at ho10
 obtain ⟨w10,hw10⟩ :∃q,w9.setCell ⟨gs,d,none⟩ (.int .i64 ((ct:Int)+(r:Int)))=q:=⟨_,rfl⟩
 rw[hw10] at ho10
 have hf10:Fr (fun j=>j=gs) w9 w10:=by rw[←hw10];exact fr_set _ _ _ _
 obtain ⟨cn,hcn⟩ :∃q,m.S.da.now.set d (ct+r)=q:=⟨_,rfl⟩
 rw[hcn] at ho10
 have hcnl:cn.length=m.data:=by rw[←hcn,List.length_set];exact HX.out.dn
 have hcns:∀x∈cn,x≤65535:=fun x hx=>by
  rw[←hcn] at hx
  rcases List.mem_or_eq_of_mem_set hx with q|q
  ·have:=da_small HX.out HCM.out x q;omega
  ·omega
 have HCN:=Hi hcn
 have HO10:=Hi ho10
 have HRW10:=Hi (own_fr HRW9.out hf10 (fun b hb e=>by simp[Value.ownBlock] at hb;omega))
 have HCX10:=Hi (HCX9.out.fr hf10 (fun e=>by omega))
 have HF10:Hid (Fr (fun j=>j=s0∨j=gw∨j=gs) w7 w10):=HF9.out.trans (hf10.mono (fun j _ e=>.inr (.inr e)))
 have HAW:=Hi (rareawords_any (some ⟨gs,0,none⟩) m.data cs cn w10 hcnl (Reads.of_own ho10) hcns hd2 hd1)
 have HCNL:=Hi hcnl
 have HCNS:=Hi hcns
 clear ho10 hs9 hg9 hf9 hf10 z8 hr1 hr2 hcn hcnl hcns
 refine wpSeqL_list _ _ _ (by simp) ?_
 simp only[List.map_cons,List.map_nil]
 go_wp2_with fail
 refine HAW.out.mono ?_
 rintro e w11 ⟨g11,rfl,ho11,hb11⟩
 rw[HAE.out.2] at ho11 ⊢
 have hg11:=own_base ho11 g11 rfl
 have hg11l:=own_lt ho11 g11 rfl
 have hw10s:w10.heap.size≤w11.heap.size:=hb11.size
 have hgs10:gs<w10.heap.size:=own_lt HO10.out gs rfl
 have hhb10:hb<w10.heap.size:=HCX10.out.lt
 have hgw10:gw<w10.heap.size:=own_lt HRW10.out gw rfl
 have HRW11:=Hi (own_keepU' HRW10.out hb11)
 have HO11:=Hi (own_keepU' HO10.out hb11)
 have HCX11:=Hi (HCX10.out.below hb11 HCX10.out.lt)
 have HF11:Hid (Fr (fun j=>j=s0∨j=gw∨j=gs) w7 w11):=HF10.out.trans (Fr.of_below hb11)
 have hal:(arW cn).length=ab * 16:=by rw[arW_len,HCNL.out,HAE.out.2]
 obtain ⟨W12,hrun12,hown12,hfr12⟩:=copy_own (W:=w11) HRW11.out HNWS.out ho11 hal aa 0 (ab * 16) (by omega) (by omega)
 have HR12:=Hi hrun12
 have HRW12:=Hi hown12
 have HFR12:=Hi hfr12
 have HA12:=Hi (own_fr ho11 hfr12 (fun b hb e=>by simp[Value.ownBlock] at hb;omega))
 clear ho11 hb11 hrun12 hown12 hfr12 HAW hw10 z9 fz
 go_wp2_with (refine wpList_copy_run _ rfl (.tmp 58) (.tmp 60) _ _ rfl (.slice (some ⟨gw,aa,none⟩) (ab * 16) (c3 - aa)) (.slice (some ⟨g11,0,none⟩) (ab * 16) (ab * 16)) (by simp[Act.eval]) (by simp[Act.eval]) _ _ (HR12.out _ _ _ _ (Nat.le_refl _)) ?_)
 have HCX12:=Hi (HCX11.out.fr HFR12.out (fun e=>by omega))
 have HO12:=Hi (own_fr HO11.out HFR12.out (fun b hb e=>by simp[Value.ownBlock] at hb;omega))
 have HF12:Hid (Fr (fun j=>j=s0∨j=gw∨j=gs) w7 W12):=HF11.out.trans (HFR12.out.mono (fun j _ e=>.inr (.inl e)))
 have y1:W12.cell? ⟨hb,1,none⟩=some (.int .i64 (m.time:Int)):=HCX12.out.cell 1
 have y2:W12.cell? ⟨hb,2,none⟩=some (.int .i64 (m.data:Int)):=HCX12.out.cell 2
 have y3:W12.cell? ⟨hb,3,none⟩=some (.int .i64 (m.chunk:Int)):=HCX12.out.cell 3
 have y4:W12.cell? ⟨hb,4,none⟩=some (.int .i64 (m.area:Int)):=HCX12.out.cell 4
 have y5:W12.cell? ⟨hb,5,none⟩=some (.int .u64 (m.tree:Int)):=HCX12.out.cell 5
 have htl:=HX.out.tree_lt
 have htm:=HX.out.tl
 have hsl:=HX.out.sl
 have hnn:=HX.out.nn
 have hc1:=HX.out.c1
 have hc2:=HX.out.c2
 have har:=HX.out.ar
 have v1:IntKind.i64.wrap (m.tree:Int)=(m.tree:Int):=IntWalk.i64_in _ (by omega)
 have hbk:=fun w=>rblock_any ⟨gw,0,none⟩ nw c3 m.root w hb16 hcap (by omega)
 have HBK:Hid (∀w,Calls Tryz.prog 22 #[.slice (some ⟨gw,0,none⟩) nw c3,.int .i64 (m.root:Int)] w fun e w'=>e=.returned (.slice (some ⟨gw,m.root * 16,none⟩) 16 (c3 - m.root * 16))∧w=w'):=fun w=>by
  have:=rblock_any ⟨gw,0,none⟩ nw c3 m.root w hb16 hcap (by omega)
  rw[Addr.add_lit,Nat.zero_add] at this
  exact this
 obtain ⟨ws1,hws1⟩ :∃q,cpL m.ws aa (arW cn) 0 (ab * 16)=q:=⟨_,rfl⟩
 rw[hws1] at HRW12
 have hws1l:ws1.length=nw:=by rw[←hws1,cpL_length];exact HNWS.out
 have hrd12:Reads W12 (some ⟨gw,aa,none⟩) (uv (arW cn)):=by
  have h1:=arOf_reads HRW12.out hws1l (data:=m.data) (area:=m.area) (by rw[HAE.out.1,HAE.out.2];exact hfit)
  have h2:=arOf_cp m.ws (arW cn) m.data m.area (by rw[HAE.out.2];exact hal) (by rw[HAE.out.1,HAE.out.2,HNWS.out];exact hfit)
  rw[HAE.out.1,HAE.out.2,hws1] at h2
  rw[h2,HAE.out.1] at h1
  exact h1
 have HRT:=Hi (fun w (hr:Reads w (some ⟨gw,aa,none⟩) (uv (arW cn)))=>rrootwords_any m.root m.seq m.tree m.time m.data m.chunk m.area (some ⟨gw,aa,none⟩) (ab * 16) (c3 - aa) (arW cn) w hal hr (arW_w _ HCNS.out) (by omega) (by omega) (by omega) (by omega) (by omega) (by omega) (by omega) (by omega))
 have HRD12:=Hi hrd12
 have HWS1:=Hi hws1
 have hhb12:hb<W12.heap.size:=HCX12.out.lt
 obtain ⟨sm2,hsm2⟩ :∃q,shortC (extendC 0 (arW cn))=q:=⟨_,rfl⟩
 have HSM2:=Hi hsm2
 rw[hsm2] at HRT
 obtain ⟨rtw,hrtw⟩ :∃q,rtW m.root m.seq m.tree m.time m.data m.chunk m.area sm2=q:=⟨_,rfl⟩
 have HRTW:=Hi hrtw
 rw[hrtw] at HRT
 have hrtl:rtw.length=16:=by rw[←hrtw];exact (rt_facts _ _ _ _ _ _ _ _ hrb).1
 have HRTL:=Hi hrtl
 clear hbk hws1 hrd12 hsm2 hrtw hrtl
 refine wp_region_scr [(true,0),(true,1),(true,3),(true,4),(true,5),(true,6),(true,7),(true,8),(true,9),(true,10),(true,11),(true,12),(true,13),(true,14),(true,15),(true,16),(false,2),(false,17)] [18] 18 (by kernel_rfl) (by decide +kernel) (fun w=>w.cell? ⟨hb,1,none⟩=some (.int .i64 (m.time:Int))∧w.cell? ⟨hb,2,none⟩=some (.int .i64 (m.data:Int))∧w.cell? ⟨hb,3,none⟩=some (.int .i64 (m.chunk:Int))∧w.cell? ⟨hb,4,none⟩=some (.int .i64 (m.area:Int))∧w.cell? ⟨hb,5,none⟩=some (.int .u64 (m.tree:Int))) ⟨y1,y2,y3,y4,y5⟩ ?_
 simp only[pickS,pickL,List.getElem?_toArray,List.getElem?_cons_zero,List.getElem?_cons_succ]
 iterate 16
  refine ⟨?_,Or.inl ⟨by rfl,fun W' hS'=>?_⟩,fun _ _ _ h=>h,?_⟩
  rotate_left
  ·obtain ⟨q1,q2,q3,q4,q5⟩:=hS'
   go_simp
   with_reducible rfl
  simp only[Act.put,List.setIfInBounds_toArray,List.set_cons_zero,List.set_cons_succ]
 refine wpScr_step (fun K hK=>?_)
 go_simp
 go_at_call 22
 refine (HBK.out _).mono ?_
 rintro e w' ⟨rfl,rfl⟩
 refine hK _ _ ⟨y1,y2,y3,y4,y5⟩ ?_
 clear hK K
 refine wpScr_step (fun K hK=>?_)
 go_simp
 go_at_call 23
 refine (HRT.out _ (HRD12.out.keep ((Below.refl _ W12).drew))).mono ?_
 rintro e w13 ⟨gr,rfl,hor,hb13⟩
 have hbw:Below W12.heap.size W12 w13:=((Below.refl _ W12).drew).trans hb13
 refine hK _ _ ⟨(hbw.cell (p:=⟨hb,1,none⟩) hhb12).trans y1,(hbw.cell (p:=⟨hb,2,none⟩) hhb12).trans y2,(hbw.cell (p:=⟨hb,3,none⟩) hhb12).trans y3,(hbw.cell (p:=⟨hb,4,none⟩) hhb12).trans y4,(hbw.cell (p:=⟨hb,5,none⟩) hhb12).trans y5⟩ ?_
 clear hK K
 have HRW13:=Hi (own_keepU' HRW12.out hbw)
 have HO13:=Hi (own_keepU' HO12.out hbw)
 have HF13:Hid (Fr (fun j=>j=s0∨j=gw∨j=gs) w7 w13):=HF12.out.trans (Fr.of_below hbw)
 have hgr:=own_base hor gr rfl
 have hgw12:gw<W12.heap.size:=own_lt HRW12.out gw rfl
 obtain ⟨W14,hrun14,hown14,hfr14⟩:=copy_own (W:=w13) HRW13.out hws1l hor HRTL.out (m.root * 16) 0 16 (by omega) (by omega)
 have HR14:=Hi hrun14
 have hlk:=lke_counts HX.out HCM.out (x:=r) hdd hr9.1 hr9.2
 rw[HCT.out,HCN.out,HAE.out.1,HAE.out.2,HWS1.out,HSM2.out,HRTW.out] at hlk
 obtain ⟨ws2,hws2⟩ :∃q,cpL ws1 (m.root * 16) rtw 0 16=q:=⟨_,rfl⟩
 rw[hws2] at hlk hown14
 have hck:=thchk_any W14 gw c3 60 ws2 m sm2 d false true (by rw[HNWS.out];exact hown14) HY.out HCM.out hlk.1 (by rw[hlk.2.1];exact iff_of_true HSM2.out rfl) (by rw[hlk.2.1];exact hlk.2.2.1) (fun _=>hdd)
 rw[HNWS.out,hlk.2.1,hlk.2.2.2] at hck
 have HCK:=Hi hck
 have HO14:=Hi (own_fr HO13.out hfr14 (fun b hb e=>by simp[Value.ownBlock] at hb;omega))
 have HF14:Hid (Fr (fun j=>j=s0∨j=gw∨j=gs) w7 W14):=HF13.out.trans (hfr14.mono (fun j _ e=>.inr (.inl e)))
 clear hor hb13 hbw hrun14 hown14 hfr14 hlk hck hws2 y1 y2 y3 y4 y5
 refine wpSeqL_list _ _ _ (by simp) ?_
 simp only[List.map_cons,List.map_nil]
 go_wp2_with (refine wpList_copy_run _ rfl (.tmp 64) (.tmp 79) _ _ rfl (.slice (some ⟨gw,m.root * 16,none⟩) 16 (c3 - m.root * 16)) (.slice (some ⟨gr,0,none⟩) 16 16) (by simp[Act.eval]) (by simp[Act.eval]) _ _ (HR14.out _ _ _ _ (Nat.le_refl _)) ?_)
 refine HCK.out.mono ?_
 rintro e w15 ⟨v,rfl,hown15,hb15⟩
 obtain ⟨A15,c15,hv15⟩:=own_form hown15
 subst hv15
 rw[show nA false+nA true=1 from rfl] at hown15 ⊢
 obtain ⟨b5,o5,hA5,hbl5,hcl5⟩:=Reads.of_own hown15 (by simp[vA,vD,vioC])
 subst hA5
 have z0:w15.cell? ⟨b5,o5,none⟩=some (.int .i64 13):=hcl5 0 _ rfl
 have z1:w15.cell? ⟨b5,o5+1,none⟩=some (.string ⟨#[99,111,117,110,116]⟩):=hcl5 1 _ rfl
 have z2:w15.cell? ⟨b5,o5+2,none⟩=some (.int .i64 (d:Int)):=hcl5 2 _ rfl
 have z3:w15.cell? ⟨b5,o5+3,none⟩=some (.int .i64 ((ct+r:Nat):Int)):=hcl5 3 _ rfl
 have HO15:=Hi (own_keepU' HO14.out hb15)
 have z4:w15.cell? ⟨gs,d,none⟩=some (.int .i64 ((ct+r:Nat):Int)):=by
  have:=HO15.out.cellAt d (by omega)
  rw[nv_at _ _ (by rw[HCNL.out];exact hdd),←HCN.out,List.getElem?_set_self (by rw[HX.out.dn];exact hdd)] at this
  exact this
 have HF15:Hid (Fr (fun j=>j=s0∨j=gw∨j=gs) w7 w15):=HF14.out.trans (Fr.of_below hb15)
 have HB15:Hid (Below w.heap.size w w15):=by
  have h0:=HS0.out
  exact HB7.out.trans (HF15.out.below HB7.out.size (fun j hj=>by have:j=s0∨j=gw∨j=gs:=hj;omega))
 have hgs15:gs<w15.heap.size:=own_lt HO15.out gs rfl
 obtain ⟨q,hq⟩ :∃q,ct+r=q:=⟨_,rfl⟩
 rw[hq] at z3 z4
 clear hown15 hcl5 hb15 HCK hq
 go_wp2_with fail
 refine wp_region_scr [(true,0),(true,1),(true,2),(true,3),(true,4),(true,5),(true,6),(true,7),(true,8),(true,9),(true,10),(true,11),(true,12),(true,13),(true,14),(true,15),(false,16),(true,17)] [18] 18 (by kernel_rfl) (by decide +kernel) (fun w=>w.cell? ⟨b5,o5,none⟩=some (.int .i64 13)∧w.cell? ⟨b5,o5+1,none⟩=some (.string ⟨#[99,111,117,110,116]⟩)∧w.cell? ⟨b5,o5+2,none⟩=some (.int .i64 (d:Int))∧w.cell? ⟨b5,o5+3,none⟩=some (.int .i64 (q:Int))∧w.cell? ⟨gs,d,none⟩=some (.int .i64 (q:Int))) ⟨z0,z1,z2,z3,z4⟩ ?_
 simp only[pickS,pickL,List.getElem?_toArray,List.getElem?_cons_zero,List.getElem?_cons_succ]
 iterate 16
  refine ⟨?_,Or.inl ⟨by rfl,fun W' hS'=>?_⟩,fun _ _ _ h=>h,?_⟩
  rotate_left
  ·obtain ⟨q0,q1,q2,q3,q4⟩:=hS'
   go_simp
   with_reducible rfl
  simp only[Act.put,List.setIfInBounds_toArray,List.set_cons_zero,List.set_cons_succ]
 refine wpScr_step (fun K hK=>?_)
 go_simp
 go_at_call 11
 refine (awake29_any _).mono ?_
 rintro e w16 ⟨rfl,hb16'⟩
 have hbw:Below w15.heap.size w15 w16:=(Below.refl _ w15).drew.trans hb16'
 have HB16:=Hi (HB15.out.trans (hbw.mono HB15.out.size))
 refine hK _ _ ⟨(hbw.cell (p:=⟨b5,o5,none⟩) hbl5).trans z0,(hbw.cell (p:=⟨b5,o5+1,none⟩) hbl5).trans z1,(hbw.cell (p:=⟨b5,o5+2,none⟩) hbl5).trans z2,(hbw.cell (p:=⟨b5,o5+3,none⟩) hbl5).trans z3,(hbw.cell (p:=⟨gs,d,none⟩) hgs15).trans z4⟩ ?_
 clear hK K
 iterate 1
  refine ⟨?_,Or.inl ⟨by rfl,fun W' hS'=>?_⟩,fun _ _ _ h=>h,?_⟩
  rotate_left
  ·go_simp
   with_reducible rfl
  simp only[Act.put,List.setIfInBounds_toArray,List.set_cons_zero,List.set_cons_succ]
 refine wpSeqL_list _ _ _ (by simp) ?_
 simp only[List.map_cons,List.map_nil]
 go_wp2_with fail
 go_ret
 exact ⟨rfl,HB16.out⟩
end
end Go.Proofs.YtplhdjdkobddnaaGreat
