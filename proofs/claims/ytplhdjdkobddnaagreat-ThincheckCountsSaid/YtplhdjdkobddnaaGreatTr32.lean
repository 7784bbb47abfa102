/- ThG ThH ThI ThJ -/
import Derived.Test.YtplhdjdkobddnaaGreatTr26
import Derived.Test.YtplhdjdkobddnaaGreatTr31
set_option linter.unusedVariables false
set_option maxRecDepth 100000
set_option maxHeartbeats 40000000
namespace Go.Proofs.YtplhdjdkobddnaaGreat
section
open Go.RowKit
attribute [local go_sem] Oper.semAt_some
def rwM:List Nat:=[16777215,4096,1048575,16384,64,1]
structure RdOk (sq tr ti da ck ar sm b n:Nat):Prop where
 sq:sq≤16777215
 tr:tr≤4096
 ti:ti≤1048575
 d1:1≤da
 d2:da≤16384
 c1:1≤ck
 c2:ck≤64
 ar:ar≤1
 sm:sm<18446744073709551616
 sz:(2 * arB da+49) * 16≤n
 bl:2 * arB da<b
 b4:b<4096
 nl:n≤1000000
theorem threadroot_any (sq tr ti da ck ar sm b n:Nat) (h:RdOk sq tr ti da ck ar sm b n) (A:Option Addr) (c:Nat) (W:World) (hA:Reads W A (uv (rtW b sq tr ti da ck ar sm))) :
  Calls Tryz.prog 27 #[.slice A 16 c,.int .i64 (b:Int),.int .i64 (sq:Int),.int .i64 (n:Int)] W fun e w'=>e=.returned (.tuple #[.agg #[.int .i64 (sq:Int),.int .i64 (tr:Int),.int .i64 (ti:Int),.int .i64 (da:Int),.int .i64 (ck:Int),.int .i64 (ar:Int),.int .u64 (sm:Int)],.bool true])∧Below W.heap.size W w':=by
 obtain ⟨o1,o2,o3,o4,o5,o6,o7,o8,o9,o10,o11,o12,o13⟩:=h
 obtain ⟨f1,f2,f3⟩:=rt_facts b sq tr ti da ck ar sm o12
 have hw64:W64 (rtW b sq tr ti da ck ar sm):=rtW_w _ _ _ _ _ _ _ _ (by omega) (by omega) (by omega) (by omega) (by omega) (by omega) o9
 have HSD:=Hi (fun w (hw:Below W.heap.size W w)=>sealed_any A c 16 (rtW b sq tr ti da ck ar sm) 1 (b:Int) w f1 (hA.keep hw) hw64 (by omega))
 rw[f2] at HSD
 have HRW:=Hi (fun w=>throotwords_any sq tr ti da ck ar sm b w (by omega) (by omega) (by omega) (by omega) (by omega) (by omega) o9)
 have HSZ:=Hi (fun w=>thsize_any da w o4 o5)
 have HAR:=Hi (fun w=>thareas_any da w (by omega))
 obtain ⟨g0,off0,rfl,hg0,hcl⟩:=hA (by rw[uv_length,f1];omega)
 have hat:∀(j v:Nat),0<j→j<8→(rtL b sq tr ti da ck ar sm)[j]?.getD 0=v→W.cell? ⟨g0,off0+j,none⟩=some (.int .u64 (v:Int)):=fun j v h0 h8 hv=>by
  have:=hcl j _ (uv_at (rtW b sq tr ti da ck ar sm) j (by rw[f1];omega))
  rw[f3 j h0,hv] at this
  exact this
 have z1:=hat 1 sq (by omega) (by omega) rfl
 have z2:=hat 2 tr (by omega) (by omega) rfl
 have z3:=hat 3 ti (by omega) (by omega) rfl
 have z4:=hat 4 da (by omega) (by omega) rfl
 have z5:=hat 5 ck (by omega) (by omega) rfl
 have z6:=hat 6 ar (by omega) (by omega) rfl
 have z7:=hat 7 sm (by omega) (by omega) rfl
 obtain ⟨RW,hRW⟩ :∃q,rtW b sq tr ti da ck ar sm=q:=⟨_,rfl⟩
 rw[hRW] at hA f1 HRW
 have HRD:=Hi hA
 have HF1:=Hi f1
 clear hat hcl f2 f3 hw64 hRW hA f1
 go_enter Tryz.func27,Tryz.ntmps27
 go_wp2_with fail
 have C0:=Cs.new W 59 #[.int .i64 0,.int .i64 0,.int .i64 0,.int .i64 0,.int .i64 0,.int .i64 0,.int .u64 0]
 have b0:Below W.heap.size W (W.alloc (.cells #[.int .i64 0,.int .i64 0,.int .i64 0,.int .i64 0,.int .i64 0,.int .i64 0,.int .u64 0] 59)):=(Below.refl _ W).alloc (Nat.le_refl _) _
 refine (HSD.out _ b0).mono ?_
 rintro e w1 ⟨rfl,hb1⟩
 have HB1:=Hi (b0.trans (hb1.mono b0.size))
 have HC1:=Hi (C0.below hb1 C0.lt)
 have hz1:W.heap.size<w1.heap.size:=HC1.out.lt
 clear C0 b0 hb1
 go_wp2_with fail
 have hb2:Below w1.heap.size w1 (w1.alloc (.cells #[.int .u64 16777215,.int .u64 4096,.int .u64 1048575,.int .u64 16384,.int .u64 64,.int .u64 1] 39)):=(Below.refl _ w1).alloc (Nat.le_refl _) _
 have R2:=Hi (Reads.new w1 #[.int .u64 16777215,.int .u64 4096,.int .u64 1048575,.int .u64 16384,.int .u64 64,.int .u64 1] 39)
 have HB2:=Hi (HB1.out.trans (hb2.mono HB1.out.size))
 have HC2:=Hi (HC1.out.below hb2 HC1.out.lt)
 have hz2:(w1.alloc (.cells #[.int .u64 16777215,.int .u64 4096,.int .u64 1048575,.int .u64 16384,.int .u64 64,.int .u64 1] 39)).heap.size=w1.heap.size+1:=by simp
 generalize (w1.alloc (.cells #[.int .u64 16777215,.int .u64 4096,.int .u64 1048575,.int .u64 16384,.int .u64 64,.int .u64 1] 39))=w2 at *
 have HLM:Hid (∀k,k<6→w2.cell? ⟨w1.heap.size,0+k,none⟩=some (.int .u64 ((rwM[k]?.getD 0:Nat):Int))):=fun k hk=>by
  obtain ⟨gg,off,e,hgg,hcl⟩:=R2.out (by simp)
  cases e
  exact hcl k _ (uv_at rwM k hk)
 have HVS:Hid (∀k,k<6→∃v:Nat,w2.cell? ⟨g0,off0+(1+k),none⟩=some (.int .u64 (v:Int))∧v≤rwM[k]?.getD 0):=fun k hk=>by
  have hx:∀j v:Nat,W.cell? ⟨g0,off0+j,none⟩=some (.int .u64 (v:Int))→w2.cell? ⟨g0,off0+j,none⟩=some (.int .u64 (v:Int)):=fun j v q=>(HB2.out.cell (p:=⟨g0,off0+j,none⟩) hg0).trans q
  match k,hk with
  |0,_=>exact ⟨sq,hx 1 _ z1,o1⟩
  |1,_=>exact ⟨tr,hx 2 _ z2,o2⟩
  |2,_=>exact ⟨ti,hx 3 _ z3,o3⟩
  |3,_=>exact ⟨da,hx 4 _ z4,o5⟩
  |4,_=>exact ⟨ck,hx 5 _ z5,o7⟩
  |5,_=>exact ⟨ar,hx 6 _ z6,o8⟩
 obtain ⟨B2,hB2⟩ :∃q,w1.heap.size=q:=⟨_,rfl⟩
 rw[hB2] at HLM hz1 hz2 ⊢
 clear R2 hb2 hB2
 go_loopw [10,11,21] (fun _ _ s21 wr=>∃k:Nat,k≤6∧s21=.int .i64 k∧w2=wr) (fun _ _ s21 _=>6 - (intOf s21).toNat)
 case atStart=>exact ⟨0,Nat.zero_le _,rfl,rfl⟩
 case round=>
  obtain ⟨k,hk,rfl,rfl⟩:=hrel
  by_cases hlt:k<6
  ·have y0:=HLM.out k hlt
   rw[Nat.zero_add] at y0
   obtain ⟨v,y1,hv⟩:=HVS.out k hlt
   obtain ⟨lm,hlm⟩ :∃q,rwM[k]?.getD 0=q:=⟨_,rfl⟩
   rw[hlm] at y0 hv
   have d1:(k:Int)<6:=by omega
   have d2:¬(lm:Int)<(v:Int):=by omega
   have d3:1+k<16:=by omega
   clear hlm
   go_wp2_with fail
   go_roundw
   case rel=>exact ⟨k+1,by omega,by go_num,trivial⟩
   case measure=>simp[intOf];omega
  ·have hke:k=6:=by omega
   subst hke
   have d1:¬((6:Nat):Int)<6:=by omega
   have v1:=(HB2.out.cell (p:=⟨g0,off0+1,none⟩) hg0).trans z1
   have v2:=(HB2.out.cell (p:=⟨g0,off0+2,none⟩) hg0).trans z2
   have v3:=(HB2.out.cell (p:=⟨g0,off0+3,none⟩) hg0).trans z3
   have v4:=(HB2.out.cell (p:=⟨g0,off0+4,none⟩) hg0).trans z4
   have v5:=(HB2.out.cell (p:=⟨g0,off0+5,none⟩) hg0).trans z5
   have v6:=(HB2.out.cell (p:=⟨g0,off0+6,none⟩) hg0).trans z6
   have v7:=(HB2.out.cell (p:=⟨g0,off0+7,none⟩) hg0).trans z7
   have hgw2:g0<w2.heap.size:=Nat.lt_of_lt_of_le hg0 HB2.out.size
   have e1:IntKind.i64.wrap (sq:Int)=(sq:Int):=IntWalk.i64_in _ (by omega)
   have e2:IntKind.i64.wrap (tr:Int)=(tr:Int):=IntWalk.i64_in _ (by omega)
   have e3:IntKind.i64.wrap (ti:Int)=(ti:Int):=IntWalk.i64_in _ (by omega)
   have e4:IntKind.i64.wrap (da:Int)=(da:Int):=IntWalk.i64_in _ (by omega)
   have e5:IntKind.i64.wrap (ck:Int)=(ck:Int):=IntWalk.i64_in _ (by omega)
   have e6:IntKind.i64.wrap (ar:Int)=(ar:Int):=IntWalk.i64_in _ (by omega)
   go_wp2_with fail
   go_cut [12] (fun s12 wx=>∃r:Nat,s12=.pointer (some ⟨r,0,none⟩)∧Hid (Cs wx r 59 #[.int .i64 (sq:Int),.int .i64 (tr:Int),.int .i64 (ti:Int),.int .i64 (da:Int),.int .i64 (ck:Int),.int .i64 (ar:Int),.int .u64 (sm:Int)])∧Hid (Below w2.heap.size w2 wx)∧Hid (w2.heap.size≤r))
   case first=>
    refine wp_region_scr [(true,0),(true,1),(true,2),(true,3),(true,4),(true,5),(true,6),(true,7),(true,8),(true,9),(true,10),(true,11),(true,12),(true,13),(true,14),(true,15),(true,16),(true,17),(true,18),(true,19),(true,20),(true,21),(true,22),(true,23),(true,24),(true,25),(true,26),(true,27),(false,28)] [29] 29 (by kernel_rfl) (by decide +kernel) (fun w=>Below w2.heap.size w2 w) (Below.refl _ w2).drew ?_
    simp only[pickS,pickL,List.getElem?_toArray,List.getElem?_cons_zero,List.getElem?_cons_succ]
    iterate 28
     refine ⟨?_,Or.inl ⟨by rfl,fun W' hS'=>?_⟩,fun _ _ _ h=>h,?_⟩
     rotate_left
     ·have hS2:Below w2.heap.size w2 W':=hS'
      have y1:=(hS2.cell (p:=⟨g0,off0+1,none⟩) hgw2).trans v1
      have y2:=(hS2.cell (p:=⟨g0,off0+2,none⟩) hgw2).trans v2
      have y3:=(hS2.cell (p:=⟨g0,off0+3,none⟩) hgw2).trans v3
      have y4:=(hS2.cell (p:=⟨g0,off0+4,none⟩) hgw2).trans v4
      have y5:=(hS2.cell (p:=⟨g0,off0+5,none⟩) hgw2).trans v5
      have y6:=(hS2.cell (p:=⟨g0,off0+6,none⟩) hgw2).trans v6
      have y7:=(hS2.cell (p:=⟨g0,off0+7,none⟩) hgw2).trans v7
      go_simp
      with_reducible rfl
     simp only[Act.put,List.setIfInBounds_toArray,List.set_cons_zero,List.set_cons_succ]
    refine wpScr_step (fun K hK=>?_)
    go_simp
    refine hK _ _ ((Below.refl _ w2).drew.alloc (Nat.le_refl _) _) ?_
    clear hK K
    refine wpSeqL_list _ _ _ (by simp) ?_
    simp only[List.map_cons,List.map_nil]
    have C3:=Cs.new w2 59 #[.int .i64 0,.int .i64 0,.int .i64 0,.int .i64 0,.int .i64 0,.int .i64 0,.int .u64 0]
    rw[hz2] at C3
    have hbo:Below w2.heap.size w2 (w2.alloc (.cells #[.int .i64 0,.int .i64 0,.int .i64 0,.int .i64 0,.int .i64 0,.int .i64 0,.int .u64 0] 59)):=(Below.refl _ w2).alloc (Nat.le_refl _) _
    generalize (w2.alloc (.cells #[.int .i64 0,.int .i64 0,.int .i64 0,.int .i64 0,.int .i64 0,.int .i64 0,.int .u64 0] 59))=w3 at C3 hbo ⊢
    obtain ⟨rb,hrb⟩ :∃q,B2+1=q:=⟨_,rfl⟩
    rw[hrb] at C3 hz2 ⊢
    clear hrb
    have q0:w3.cell? ⟨rb,0,none⟩=some (.int .i64 0):=C3.cell 0
    have r0:=C3.free 0
    have q1:w3.cell? ⟨rb,1,none⟩=some (.int .i64 0):=C3.cell 1
    have r1:=C3.free 1
    have q2:w3.cell? ⟨rb,2,none⟩=some (.int .i64 0):=C3.cell 2
    have r2:=C3.free 2
    have q3:w3.cell? ⟨rb,3,none⟩=some (.int .i64 0):=C3.cell 3
    have r3:=C3.free 3
    have q4:w3.cell? ⟨rb,4,none⟩=some (.int .i64 0):=C3.cell 4
    have r4:=C3.free 4
    have q5:w3.cell? ⟨rb,5,none⟩=some (.int .i64 0):=C3.cell 5
    have r5:=C3.free 5
    have q6:w3.cell? ⟨rb,6,none⟩=some (.int .u64 0):=C3.cell 6
    have r6:=C3.free 6
    have HP:=Hi (C3.put7 (.int .i64 (sq:Int)) (.int .i64 (tr:Int)) (.int .i64 (ti:Int)) (.int .i64 (da:Int)) (.int .i64 (ck:Int)) (.int .i64 (ar:Int)) (.int .u64 (sm:Int)))
    have HBO:=Hi (((((((hbo.setCell (p:=⟨rb,0,none⟩) (by rw[hz2];exact Nat.le_refl _) (.int .i64 (sq:Int))).setCell (p:=⟨rb,1,none⟩) (by rw[hz2];exact Nat.le_refl _) (.int .i64 (tr:Int))).setCell (p:=⟨rb,2,none⟩) (by rw[hz2];exact Nat.le_refl _) (.int .i64 (ti:Int))).setCell (p:=⟨rb,3,none⟩) (by rw[hz2];exact Nat.le_refl _) (.int .i64 (da:Int))).setCell (p:=⟨rb,4,none⟩) (by rw[hz2];exact Nat.le_refl _) (.int .i64 (ck:Int))).setCell (p:=⟨rb,5,none⟩) (by rw[hz2];exact Nat.le_refl _) (.int .i64 (ar:Int))).setCell (p:=⟨rb,6,none⟩) (by rw[hz2];exact Nat.le_refl _) (.int .u64 (sm:Int)))
    have HZ2:=Hi hz2
    clear C3 hbo hz2 v1 v2 v3 v4 v5 v6 v7 z1 z2 z3 z4 z5 z6 z7 e1 e2 e3 e4 e5 e6 d1 hlt hk HVS HLM o1 o2 o3 o4 o5 o6 o7 o8 o9 o10 o11 o12 o13 hg0 hgw2 hz1
    go_wp2_with fail
    generalize (((((((w3.setCell ⟨rb,0,none⟩ (.int .i64 (sq:Int))).setCell ⟨rb,1,none⟩ (.int .i64 (tr:Int))).setCell ⟨rb,2,none⟩ (.int .i64 (ti:Int))).setCell ⟨rb,3,none⟩ (.int .i64 (da:Int))).setCell ⟨rb,4,none⟩ (.int .i64 (ck:Int))).setCell ⟨rb,5,none⟩ (.int .i64 (ar:Int))).setCell ⟨rb,6,none⟩ (.int .u64 (sm:Int)))=X at HP HBO ⊢
    go_meet
    exact ⟨rb,rfl,HP.out,HBO.out.drew,by rw[HZ2.out];exact Nat.le_refl _⟩
   case rest=>
    obtain ⟨r,hs12,hCr,hBr,hrr⟩:=hcut
    subst hs12
    have HZ2:=Hi hz2
    have hC0:=HC2.out.below hBr.out HC2.out.lt
    have c0:wc.cell? ⟨r,0,none⟩=some (.int .i64 (sq:Int)):=hCr.out.cell 0
    have c1:wc.cell? ⟨r,1,none⟩=some (.int .i64 (tr:Int)):=hCr.out.cell 1
    have c2:wc.cell? ⟨r,2,none⟩=some (.int .i64 (ti:Int)):=hCr.out.cell 2
    have c3:wc.cell? ⟨r,3,none⟩=some (.int .i64 (da:Int)):=hCr.out.cell 3
    have c4:wc.cell? ⟨r,4,none⟩=some (.int .i64 (ck:Int)):=hCr.out.cell 4
    have c5:wc.cell? ⟨r,5,none⟩=some (.int .i64 (ar:Int)):=hCr.out.cell 5
    have c6:wc.cell? ⟨r,6,none⟩=some (.int .u64 (sm:Int)):=hCr.out.cell 6
    have p0:wc.cell? ⟨W.heap.size,0,none⟩=some (.int .i64 0):=hC0.cell 0
    have g0':=hC0.free 0
    have p1:wc.cell? ⟨W.heap.size,1,none⟩=some (.int .i64 0):=hC0.cell 1
    have g1':=hC0.free 1
    have p2:wc.cell? ⟨W.heap.size,2,none⟩=some (.int .i64 0):=hC0.cell 2
    have g2':=hC0.free 2
    have p3:wc.cell? ⟨W.heap.size,3,none⟩=some (.int .i64 0):=hC0.cell 3
    have g3':=hC0.free 3
    have p4:wc.cell? ⟨W.heap.size,4,none⟩=some (.int .i64 0):=hC0.cell 4
    have g4':=hC0.free 4
    have p5:wc.cell? ⟨W.heap.size,5,none⟩=some (.int .i64 0):=hC0.cell 5
    have g5':=hC0.free 5
    have p6:wc.cell? ⟨W.heap.size,6,none⟩=some (.int .u64 0):=hC0.cell 6
    have g6':=hC0.free 6
    obtain ⟨aa,haa⟩ :∃q,arB da=q:=⟨_,rfl⟩
    have hal:aa≤257:=by rw[←haa];unfold arB;omega
    rw[haa] at HSZ HAR o10 o11
    have t1:(0:Int)<(da:Int):=by omega
    have t2:(0:Int)<(ck:Int):=by omega
    have t3:(2 * (aa:Int)+49) * 16≤(n:Int):=by omega
    have t4:2 * (aa:Int)<(b:Int):=by omega
    have t5:IntKind.i64.wrap (2 * (aa:Int))=2 * (aa:Int):=IntWalk.i64_in _ (by omega)
    have t6:(((2 * aa+49) * 16:Nat):Int)=(2 * (aa:Int)+49) * 16:=by omega
    rw[t6] at HSZ
    clear hz2 haa t6
    go_wp2_with fail
    refine (HSZ.out _).mono ?_
    rintro e w' ⟨rfl,rfl⟩
    go_wp2_with fail
    refine (HAR.out _).mono ?_
    rintro e w' ⟨rfl,rfl⟩
    go_wp2_with fail
    have hrW:¬r=W.heap.size:=by have:=HC2.out.lt;have:=hrr.out;omega
    have hWr:¬W.heap.size=r:=fun e=>hrW e.symm
    have HCR:=Hi hCr.out
    have HC0:=Hi hC0
    refine wp_region_scr [(true,0),(true,1),(true,2),(true,3),(true,4),(true,5),(false,6),(false,7),(true,8),(false,9)] [10] 10 (by kernel_rfl) (by decide +kernel) (fun w=>Cs w r 59 #[.int .i64 (sq:Int),.int .i64 (tr:Int),.int .i64 (ti:Int),.int .i64 (da:Int),.int .i64 (ck:Int),.int .i64 (ar:Int),.int .u64 (sm:Int)]) hCr.out ?_
    simp only[pickS,pickL,List.getElem?_toArray,List.getElem?_cons_zero,List.getElem?_cons_succ]
    iterate 6
     refine ⟨?_,Or.inl ⟨by rfl,fun W' hS'=>?_⟩,fun _ _ _ h=>h,?_⟩
     rotate_left
     ·have hC':Cs W' r 59 #[.int .i64 (sq:Int),.int .i64 (tr:Int),.int .i64 (ti:Int),.int .i64 (da:Int),.int .i64 (ck:Int),.int .i64 (ar:Int),.int .u64 (sm:Int)]:=hS'
      have y0:=hC'.cell 0
      have y1:=hC'.cell 1
      have y2:=hC'.cell 2
      have y3:=hC'.cell 3
      have y4:=hC'.cell 4
      have y5:=hC'.cell 5
      have y6:=hC'.cell 6
      go_simp
      with_reducible rfl
     simp only[Act.put,List.setIfInBounds_toArray,List.set_cons_zero,List.set_cons_succ]
    refine wpScr_step (fun K hK=>?_)
    go_simp
    go_at_call 69
    refine (HRW.out _).mono ?_
    rintro e w5 ⟨g5,rfl,ho5,hb5⟩
    have hb5':Below wc.heap.size wc w5:=(Below.refl _ wc).drew.trans hb5
    refine hK _ _ (HCR.out.below hb5' HCR.out.lt) ?_
    clear hK K
    have heq:=thequal_any (some ⟨g0,off0,none⟩) (some ⟨g5,0,none⟩) 16 c 16 RW RW w5 HF1.out HF1.out (HRD.out.keep (HB2.out.trans ((hBr.out.mono HB2.out.size).trans (hb5'.mono (Nat.le_trans HB2.out.size hBr.out.size))))) (Reads.of_own ho5) (by omega)
    rw[show decide (RW=RW)=true from decide_eq_true rfl] at heq
    refine wpScr_step (fun K hK=>?_)
    go_simp
    go_at_call 68
    refine heq.mono ?_
    rintro e w6 ⟨rfl,hb6⟩
    have hb6':Below wc.heap.size wc w6:=hb5'.trans (hb6.mono hb5'.size)
    have hC6:=HCR.out.below hb6' HCR.out.lt
    refine hK _ _ hC6 ?_
    clear hK K heq
    iterate 1
     refine ⟨?_,Or.inl ⟨by rfl,fun W' hS'=>?_⟩,fun _ _ _ h=>h,?_⟩
     rotate_left
     ·go_simp
      with_reducible rfl
     simp only[Act.put,List.setIfInBounds_toArray,List.set_cons_zero,List.set_cons_succ]
    have hD6:=HC0.out.below hb6' HC0.out.lt
    have s0:w6.cell? ⟨W.heap.size,0,none⟩=some (.int .i64 0):=hD6.cell 0
    have u0:=hD6.free 0
    have s1:w6.cell? ⟨W.heap.size,1,none⟩=some (.int .i64 0):=hD6.cell 1
    have u1:=hD6.free 1
    have s2:w6.cell? ⟨W.heap.size,2,none⟩=some (.int .i64 0):=hD6.cell 2
    have u2:=hD6.free 2
    have s3:w6.cell? ⟨W.heap.size,3,none⟩=some (.int .i64 0):=hD6.cell 3
    have u3:=hD6.free 3
    have s4:w6.cell? ⟨W.heap.size,4,none⟩=some (.int .i64 0):=hD6.cell 4
    have u4:=hD6.free 4
    have s5:w6.cell? ⟨W.heap.size,5,none⟩=some (.int .i64 0):=hD6.cell 5
    have u5:=hD6.free 5
    have s6:w6.cell? ⟨W.heap.size,6,none⟩=some (.int .u64 0):=hD6.cell 6
    have u6:=hD6.free 6
    have hfr:Fr (fun j=>j=W.heap.size) w6 (((((((w6.setCell ⟨W.heap.size,0,none⟩ (.int .i64 (sq:Int))).setCell ⟨W.heap.size,1,none⟩ (.int .i64 (tr:Int))).setCell ⟨W.heap.size,2,none⟩ (.int .i64 (ti:Int))).setCell ⟨W.heap.size,3,none⟩ (.int .i64 (da:Int))).setCell ⟨W.heap.size,4,none⟩ (.int .i64 (ck:Int))).setCell ⟨W.heap.size,5,none⟩ (.int .i64 (ar:Int))).setCell ⟨W.heap.size,6,none⟩ (.int .u64 (sm:Int))):=(((((((Fr.refl (fun j=>j=W.heap.size) w6).set (b:=W.heap.size) (i:=0) (.inl rfl) _).set (b:=W.heap.size) (i:=1) (.inl rfl) _).set (b:=W.heap.size) (i:=2) (.inl rfl) _).set (b:=W.heap.size) (i:=3) (.inl rfl) _).set (b:=W.heap.size) (i:=4) (.inl rfl) _).set (b:=W.heap.size) (i:=5) (.inl rfl) _).set (b:=W.heap.size) (i:=6) (.inl rfl) _
    have HFIN:=Hi (hC6.fr hfr hrW)
    have HD7:=Hi (hD6.put7 (.int .i64 (sq:Int)) (.int .i64 (tr:Int)) (.int .i64 (ti:Int)) (.int .i64 (da:Int)) (.int .i64 (ck:Int)) (.int .i64 (ar:Int)) (.int .u64 (sm:Int)))
    have HB7:Hid (Below W.heap.size W (((((((w6.setCell ⟨W.heap.size,0,none⟩ (.int .i64 (sq:Int))).setCell ⟨W.heap.size,1,none⟩ (.int .i64 (tr:Int))).setCell ⟨W.heap.size,2,none⟩ (.int .i64 (ti:Int))).setCell ⟨W.heap.size,3,none⟩ (.int .i64 (da:Int))).setCell ⟨W.heap.size,4,none⟩ (.int .i64 (ck:Int))).setCell ⟨W.heap.size,5,none⟩ (.int .i64 (ar:Int))).setCell ⟨W.heap.size,6,none⟩ (.int .u64 (sm:Int)))):=((HB2.out.trans (hBr.out.mono HB2.out.size)).trans (hb6'.mono (Nat.le_trans HB2.out.size hBr.out.size))).trans (hfr.below (Nat.le_trans (Nat.le_trans HB2.out.size hBr.out.size) hb6'.size) (fun j hj=>by have:j=W.heap.size:=hj;omega))
    clear hfr hC6 hD6
    refine wpScr_step (fun K hK=>?_)
    go_simp
    refine hK _ _ HFIN.out ?_
    clear hK K
    refine wpSeqL_list _ _ _ (by simp) ?_
    simp only[List.map_cons,List.map_nil]
    generalize (((((((w6.setCell ⟨W.heap.size,0,none⟩ (.int .i64 (sq:Int))).setCell ⟨W.heap.size,1,none⟩ (.int .i64 (tr:Int))).setCell ⟨W.heap.size,2,none⟩ (.int .i64 (ti:Int))).setCell ⟨W.heap.size,3,none⟩ (.int .i64 (da:Int))).setCell ⟨W.heap.size,4,none⟩ (.int .i64 (ck:Int))).setCell ⟨W.heap.size,5,none⟩ (.int .i64 (ar:Int))).setCell ⟨W.heap.size,6,none⟩ (.int .u64 (sm:Int)))=X at HFIN HD7 HB7 ⊢
    have d0':X.cell? ⟨W.heap.size,0,none⟩=some (.int .i64 (sq:Int)):=HD7.out.cell 0
    have d1':X.cell? ⟨W.heap.size,1,none⟩=some (.int .i64 (tr:Int)):=HD7.out.cell 1
    have d2':X.cell? ⟨W.heap.size,2,none⟩=some (.int .i64 (ti:Int)):=HD7.out.cell 2
    have d3':X.cell? ⟨W.heap.size,3,none⟩=some (.int .i64 (da:Int)):=HD7.out.cell 3
    have d4':X.cell? ⟨W.heap.size,4,none⟩=some (.int .i64 (ck:Int)):=HD7.out.cell 4
    have d5':X.cell? ⟨W.heap.size,5,none⟩=some (.int .i64 (ar:Int)):=HD7.out.cell 5
    have d6':X.cell? ⟨W.heap.size,6,none⟩=some (.int .u64 (sm:Int)):=HD7.out.cell 6
    go_wp2_with fail
    exact bodyPost_ret (v:=.tuple #[.agg #[.int .i64 (sq:Int),.int .i64 (tr:Int),.int .i64 (ti:Int),.int .i64 (da:Int),.int .i64 (ck:Int),.int .i64 (ar:Int),.int .u64 (sm:Int)],.bool true]) (by simp[results,Tryz.f27,go_sem,d0',d1',d2',d3',d4',d5',d6']) rfl ⟨rfl,HB7.out⟩
end
section
open Go.RowKit
attribute [local go_sem] Oper.semAt_some
structure CK where
 g:Nat
 n:Nat
 c:Nat
 bk:Nat
 sq:Nat
 tr:Nat
 ti:Nat
 da:Nat
 ck:Nat
 ar:Nat
 sm:Nat
 ms:Nat
 mt:Nat
 mp:Bool
 rf:Value
 ls:Value
def CK.rt (k:CK):Value:=.agg #[.int .i64 (k.sq:Int),.int .i64 (k.tr:Int),.int .i64 (k.ti:Int),.int .i64 (k.da:Int),.int .i64 (k.ck:Int),.int .i64 (k.ar:Int),.int .u64 (k.sm:Int)]
def CK.cells (k:CK):Array Value:=#[.slice (some ⟨k.g,0,none⟩) k.n k.c,.int .i64 (k.bk:Int),.int .i64 (k.sq:Int),.int .i64 (k.tr:Int),.int .i64 (k.ti:Int),.int .i64 (k.da:Int),.int .i64 (k.ck:Int),.int .i64 (k.ar:Int),.int .u64 (k.sm:Int),.map (some k.ms),.map (some k.mt),.bool k.mp,k.rf,k.ls]
theorem ckblocks_any (W:World) (C:Nat) (k:CK) (h:Cs W C 61 k.cells) (hn:k.n≤1000000) :
  Calls Tryz.prog 26 #[.pointer (some ⟨C,0,none⟩)] W fun e w'=>e=.returned (.int .i64 ((blN k.n:Nat):Int))∧W=w':=by
 have x0:W.cell? ⟨C,0,none⟩=some (.slice (some ⟨k.g,0,none⟩) k.n k.c):=h.cell 0
 have hb:blN k.n=min (k.n / 16) 4096:=rfl
 obtain ⟨n,hnn⟩ :∃q,k.n=q:=⟨_,rfl⟩
 rw[hnn] at x0 hb hn ⊢
 obtain ⟨v,hv⟩ :∃q,n / 16=q:=⟨_,rfl⟩
 have HV:Hid ((n:Int) / 16=(v:Int)):=by show _=_;rw[←hv];rfl
 have e1:IntKind.i64.wrap ((n:Int).tdiv 16)=(v:Int):=by
  rw[show (n:Int).tdiv 16=((n / 16:Nat):Int) from rfl,hv]
  exact IntWalk.i64_in _ (by omega)
 clear hnn h
 go_enter Tryz.func26,Tryz.ntmps26
 go_wp2_with fail
 case inl=>
  go_ret
  exact ⟨ret_int (by omega),rfl⟩
 case inr=>
  go_ret
  exact ⟨ret_int (by omega),rfl⟩
theorem ckat_any (W:World) (C:Nat) (k:CK) (h:Cs W C 61 k.cells) (b:Nat) (hb:(b+1) * 16≤k.n) (hc:k.n≤k.c) (hn:k.n≤1000000) :
  Calls Tryz.prog 28 #[.pointer (some ⟨C,0,none⟩),.int .i64 (b:Int)] W fun e w'=>e=.returned (.slice (some ⟨k.g,b * 16,none⟩) 16 (k.c - b * 16))∧W=w':=by
 have x0:W.cell? ⟨C,0,none⟩=some (.slice (some ⟨k.g,0,none⟩) k.n k.c):=h.cell 0
 obtain ⟨n,hnn⟩ :∃q,k.n=q:=⟨_,rfl⟩
 obtain ⟨c,hcc⟩ :∃q,k.c=q:=⟨_,rfl⟩
 rw[hnn,hcc] at x0 hc
 rw[hnn] at hb hn
 rw[hcc]
 have e1:IntKind.i64.wrap ((b:Int) * 16)=((b * 16:Nat):Int):=by rw[IntWalk.i64_in _ (by omega)];omega
 have e2:IntKind.i64.wrap ((b:Int)+1)=((b+1:Nat):Int):=by rw[IntWalk.i64_in _ (by omega)];omega
 have e3:IntKind.i64.wrap (((b+1:Nat):Int) * 16)=(((b+1) * 16:Nat):Int):=by rw[IntWalk.i64_in _ (by omega)];omega
 clear hnn hcc h
 go_enter Tryz.func28,Tryz.ntmps28
 go_wp2_with fail
 go_ret
 exact ⟨by rw[show (b+1) * 16 - b * 16=16 by omega];rfl,rfl⟩
theorem ckfull_any (W:World) (C:Nat) (k:CK) (h:Cs W C 61 k.cells) (A:Option Addr) (n c:Nat) (hl:k.ls=.slice A n c) (hn:n<64) :
  Calls Tryz.prog 61 #[.pointer (some ⟨C,0,none⟩)] W fun e w'=>e=.returned (.bool false)∧W=w':=by
 have x0:W.cell? ⟨C,13,none⟩=some k.ls:=h.cell 13
 rw[hl] at x0
 have d1:((n:Int) == 64)=false:=by simp;omega
 clear h hl
 go_enter Tryz.func61,Tryz.ntmps61
 go_wp2_with fail
 go_ret
 exact ⟨rfl,rfl⟩
end
section
open Go.RowKit
attribute [local go_sem] Oper.semAt_some
structure CkIn (W:World) (C:Nat) (k:CK) (ws:List Nat):Prop where
 cs:Cs W C 61 k.cells
 wr:W.ownsRow 0 39 1 (.slice (some ⟨k.g,0,none⟩) k.n k.c) k.n (uv ws)
 ln:ws.length=k.n
 w64:W64 ws
 nl:k.n≤100000
 gC:k.g≠C
theorem CkIn.fr {W W':World} {C:Nat} {k:CK} {ws:List Nat} {G:Nat→Prop} (h:CkIn W C k ws) (hf:Fr G W W') (h1:¬G C) (h2:¬G k.g):CkIn W' C k ws:=
 ⟨h.cs.fr hf h1,own_fr h.wr hf (fun q hq e=>by simp[Value.ownBlock] at hq;rw[←hq] at e;exact h2 e),h.ln,h.w64,h.nl,h.gC⟩
theorem CkIn.keep {W W':World} {C:Nat} {k:CK} {ws:List Nat} (h:CkIn W C k ws) (hb:Below W.heap.size W W'):CkIn W' C k ws:=h.fr (G:=fun _=>False) (Fr.of_below hb) (fun q=>q) (fun q=>q)
structure PlOk (n:Nd) (lv:Int) (sq:Nat):Prop where
 lv:lv= -1∧(n.lv≠0→2≤n.es.length)∨lv=(n.lv:Int)+1∧n.es≠[]
 sq:n.sq≤sq
theorem cknode_any (W:World) (C:Nat) (k:CK) (ws:List Nat) (h:CkIn W C k ws) (b:Nat) (n:Nd) (hn:dkW ws b=some n) (lv:Int) (sq:Nat) (lo hi:Int) (hp:PlOk n lv sq) (hb:b≤1000000) :
  Calls Tryz.prog 115 #[.pointer (some ⟨C,0,none⟩),.int .i64 (b:Int),.agg #[.int .i64 lv,.int .i64 (sq:Int),.int .i64 lo,.int .i64 hi]] W fun e w'=>∃(A:Option Addr) (c:Nat),e=.returned (.tuple #[.agg #[.int .i64 (n.lv:Int),.int .i64 (n.sq:Int),.slice A n.es.length c],.bool true])∧Reads w' A (ev n.es)∧(∀p,A=some p→W.heap.size≤p.block)∧Below W.heap.size W w':=by
 have hd:(b+1) * 16≤ws.length∧decE (blkW ws b) (b:Int)=0∧n=nodeOf (blkW ws b) b:=by
  unfold dkW at hn
  split at hn
  ·rename_i q
   cases hn
   exact ⟨q.1,q.2,rfl⟩
  ·cases hn
 obtain ⟨hd1,hd2,hd3⟩:=hd
 have hbw:=blk_w h.w64 b
 obtain ⟨df1,df2,df3,df4,df5,df6,df7,-⟩:=dec_facts hbw hd2
 rw[←hd3] at df1 df2 df3 df5 df6
 have hlen:n.es.length≤7:=by rw[df3];exact df7
 have HAT:=Hi (fun w (hw:Below W.heap.size W w)=>ckat_any w C k (h.cs.below hw h.cs.lt) b (by have:=h.ln;omega) (own_cap h.wr) (by have:=h.nl;omega))
 have HDC:=Hi (fun w (hw:Below W.heap.size W w)=>decode_all (some ⟨k.g,b * 16,none⟩) (k.c - b * 16) 16 (blkW ws b) (b:Int) w (blk_len hd1) (blk_reads (by rw[h.ln];exact own_keepU' h.wr hw) hd1) hbw (by omega))
 rw[df1,df2,hd2,←df3] at HDC
 have hl5:=df5
 obtain ⟨nl,hnl⟩ :∃q,n.lv=q:=⟨_,rfl⟩
 obtain ⟨ns,hns⟩ :∃q,n.sq=q:=⟨_,rfl⟩
 obtain ⟨es,hes⟩ :∃q,n.es=q:=⟨_,rfl⟩
 have hp1:=hp.lv
 have hp2:=hp.sq
 rw[hnl,hes] at hp1
 rw[hns] at hp2
 rw[hnl,hns,hes] at HDC ⊢
 rw[hnl] at hl5
 rw[hes] at hlen
 have hC:=h.cs.lt
 clear df1 df2 df3 df4 df5 df6 df7 hd1 hd2 hd3 hbw hn hp hnl hns hes h
 go_enter Tryz.func115,Tryz.ntmps115
 have b0:Below W.heap.size W ((W.alloc (.cells #[.int .i64 lv,.int .i64 (sq:Int),.int .i64 lo,.int .i64 hi] 116)).alloc (.cells #[.int .i64 0,.int .i64 0,.slice none 0 0] 129)):=((Below.refl _ W).alloc (Nat.le_refl _) _).alloc (by simp) _
 have CB:=(Cs.new W 116 #[.int .i64 lv,.int .i64 (sq:Int),.int .i64 lo,.int .i64 hi]).below ((Below.refl _ (W.alloc (.cells #[.int .i64 lv,.int .i64 (sq:Int),.int .i64 lo,.int .i64 hi] 116))).alloc (Nat.le_refl _) (.cells #[.int .i64 0,.int .i64 0,.slice none 0 0] 129)) (Cs.new W 116 #[.int .i64 lv,.int .i64 (sq:Int),.int .i64 lo,.int .i64 hi]).lt
 have CN:=Cs.new (W.alloc (.cells #[.int .i64 lv,.int .i64 (sq:Int),.int .i64 lo,.int .i64 hi] 116)) 129 #[.int .i64 0,.int .i64 0,.slice none 0 0]
 rw[show (W.alloc (.cells #[.int .i64 lv,.int .i64 (sq:Int),.int .i64 lo,.int .i64 hi] 116)).heap.size=W.heap.size+1 by simp] at CN
 have HA1:=Hi (HAT.out _ b0)
 go_wp2_with fail
 refine HA1.out.mono ?_
 rintro e w' ⟨rfl,rfl⟩
 have HD1:=Hi (HDC.out _ b0)
 clear HAT HDC HA1
 go_wp2_with fail
 refine HD1.out.mono ?_
 rintro e w1 ⟨v,rfl,hown,hb1⟩
 obtain ⟨A,c,rfl⟩:=own_form hown
 generalize ((W.alloc (.cells #[.int .i64 lv,.int .i64 (sq:Int),.int .i64 lo,.int .i64 hi] 116)).alloc (.cells #[.int .i64 0,.int .i64 0,.slice none 0 0] 129))=w0 at *
 have HR1:=Hi (Reads.of_own hown)
 have HB1:=Hi (b0.trans (hb1.mono b0.size))
 have CB1:=Hi (CB.below hb1 CB.lt)
 have CN1:=Hi (CN.below hb1 CN.lt)
 have hw0:W.heap.size+1<w0.heap.size:=CN.lt
 have HGE:=Hi (own_ge hown)
 have HGA:=Hi (fun p (hp:A=some p)=>(show W.heap.size≤p.block by have:=(HGE.out p hp).1;omega))
 clear hown hb1 b0 CB CN HD1
 have bo:Below w1.heap.size w1 (w1.alloc (.cells #[.int .i64 (nl:Int),.int .i64 (ns:Int),.slice A es.length c] 129)):=(Below.refl _ w1).alloc (Nat.le_refl _) _
 have CX2:=Cs.new w1 129 #[.int .i64 (nl:Int),.int .i64 (ns:Int),.slice A es.length c]
 have CB2:=CB1.out.below bo CB1.out.lt
 have CN2:=CN1.out.below bo CN1.out.lt
 have hl1:=CN1.out.lt
 have HB2:=Hi (HB1.out.trans (bo.mono HB1.out.size))
 have HR2:=Hi (HR1.out.keep bo)
 clear bo
 go_upto_region 2 with (fail)
 generalize (w1.alloc (.cells #[.int .i64 (nl:Int),.int .i64 (ns:Int),.slice A es.length c] 129))=w2 at CX2 CB2 CN2 HB2 HR2 ⊢
 obtain ⟨nb,hnb⟩ :∃q,w1.heap.size=q:=⟨_,rfl⟩
 obtain ⟨rb,hrb⟩ :∃q,W.heap.size+1=q:=⟨_,rfl⟩
 obtain ⟨pb,hpb⟩ :∃q,W.heap.size=q:=⟨_,rfl⟩
 have o1:¬nb=pb∧¬pb=nb∧¬nb=rb∧¬rb=nb∧¬rb=pb∧¬pb=rb:=by omega
 obtain ⟨o1,o2,o3,o4,o5,o6⟩:=o1
 rw[hrb] at CN2 ⊢
 rw[hnb] at CX2 ⊢
 rw[hpb] at CB2 ⊢
 have HN2:=Hi CN2
 have HXF:Hid (∀a b c':Value,Fr (fun j=>j=rb) w2 (((w2.setCell ⟨rb,0,none⟩ a).setCell ⟨rb,1,none⟩ b).setCell ⟨rb,2,none⟩ c')):=fun a b c'=>((((Fr.refl (fun j=>j=rb) w2).set (b:=rb) (i:=0) (.inl rfl) a).set (b:=rb) (i:=1) (.inl rfl) b).set (b:=rb) (i:=2) (.inl rfl) c')
 have HRX:Hid (∀X:World,Fr (fun j=>j=rb) w2 X→Reads X A (ev es)∧Below W.heap.size W X):=fun X hX=>⟨HR2.out.fr hX (fun _ p hp e=>by have:=(HGE.out p hp).1;omega),HB2.out.trans (hX.below HB2.out.size (fun j hj=>by have:j=rb:=hj;omega))⟩
 have HPB:=Hi hpb
 have HRB:=Hi hrb
 have x0:w2.cell? ⟨pb,0,none⟩=some (.int .i64 lv):=CB2.cell 0
 have x1:w2.cell? ⟨pb,1,none⟩=some (.int .i64 (sq:Int)):=CB2.cell 1
 have p0:w2.cell? ⟨rb,0,none⟩=some (.int .i64 0):=CN2.cell 0
 have p1:w2.cell? ⟨rb,1,none⟩=some (.int .i64 0):=CN2.cell 1
 have p2:w2.cell? ⟨rb,2,none⟩=some (.slice none 0 0):=CN2.cell 2
 have y0:w2.cell? ⟨nb,0,none⟩=some (.int .i64 (nl:Int)):=CX2.cell 0
 have y1:w2.cell? ⟨nb,1,none⟩=some (.int .i64 (ns:Int)):=CX2.cell 1
 have y2:w2.cell? ⟨nb,2,none⟩=some (.slice A es.length c):=CX2.cell 2
 have f0:=CN2.free 0
 have f1:=CN2.free 1
 have f2:=CN2.free 2
 clear CX2 CB2 CN2 hnb hrb hpb
 have s1:¬(sq:Int)<(ns:Int):=by omega
 have e1:IntKind.i64.wrap ((nl:Int)+1 - 1)=(nl:Int):=by rw[IntWalk.i64_in _ (by omega)];omega
 rcases hp1 with ⟨rfl,h2⟩| ⟨rfl,h2⟩
 ·by_cases h0:nl=0
  ·have t1:¬(0:Int)<(nl:Int):=by omega
   clear h0 h2
   go_wp2_with fail
   exact bodyPost_ret (v:=.tuple #[.agg #[.int .i64 (nl:Int),.int .i64 (ns:Int),.slice A es.length c],.bool true]) (by simp[results,Tryz.f115,go_sem,p0,p1,p2]) rfl ⟨A,⟨c,rfl⟩,(HRX.out _ (HXF.out _ _ _)).1,HGA.out,(HRX.out _ (HXF.out _ _ _)).2⟩
  ·have t1:(0:Int)<(nl:Int):=by omega
   have t2:¬(es.length:Int)<2:=by have:=h2 h0;omega
   clear h0 h2
   go_wp2_with fail
   exact bodyPost_ret (v:=.tuple #[.agg #[.int .i64 (nl:Int),.int .i64 (ns:Int),.slice A es.length c],.bool true]) (by simp[results,Tryz.f115,go_sem,p0,p1,p2]) rfl ⟨A,⟨c,rfl⟩,(HRX.out _ (HXF.out _ _ _)).1,HGA.out,(HRX.out _ (HXF.out _ _ _)).2⟩
 ·have t1:¬(nl:Int)+1<0:=by omega
  have t2:((es.length:Int) == 0)=false:=by
   have:es.length≠0:=fun e=>h2 (List.eq_nil_of_length_eq_zero e)
   simp
   omega
  have t3:((nl:Int) != (nl:Int))=false:=by simp
  clear h2
  go_wp2_with fail
  exact bodyPost_ret (v:=.tuple #[.agg #[.int .i64 (nl:Int),.int .i64 (ns:Int),.slice A es.length c],.bool true]) (by simp[results,Tryz.f115,go_sem,p0,p1,p2]) rfl ⟨A,⟨c,rfl⟩,(HRX.out _ (HXF.out _ _ _)).1,HGA.out,(HRX.out _ (HXF.out _ _ _)).2⟩
end
section
open Go.RowKit
theorem map_lt {W:World} {mb:Nat} {o:Obj} (h:W.heap[mb]? =some o):mb<W.heap.size:=(Array.getElem?_eq_some_iff.1 h).1
theorem zero_bool (w:World):(zeroValue 4).run Tryz.prog w=.ok (.bool false) w:=by kernel_rfl
def Seen (W:World) (b n:Nat) (S:List Int):Prop:=
 ∃D:DataW Unit,W.ownsMap Tryz.prog 3 (plainElem Tryz.prog 4) b n D∧∀x:Int,D.atKey (.int .i64 x) (.lit (.bool false))=.lit (.bool (decide (x∈S)))
theorem Seen.made (W:World):Seen (W.alloc (.map #[] 0)) W.heap.size 0 []:=
 ⟨.map [],World.ownsMap_made W _ _ _,fun x=>by simp[DataW.atKey]⟩
theorem Seen.keep {W W':World} {b n:Nat} {S:List Int} (h:Seen W b n S) {row:Option Nat} (hg:W.grownBy W' row) (hne:some b≠row):Seen W' b n S:=by
 obtain ⟨D,h1,h2⟩:=h
 exact ⟨D,h1.kept hg hne,h2⟩
theorem Seen.fr {W W':World} {b n:Nat} {S:List Int} {G:Nat→Prop} (h:Seen W b n S) (hf:Fr G W W') (hn:¬G b):Seen W' b n S:=by
 obtain ⟨D,⟨es,clock,hb,r⟩,h2⟩:=h
 exact ⟨D,⟨es,clock,(hf.block b (map_lt hb) hn).trans hb,r⟩,h2⟩
theorem Seen.mono {W:World} {b n n':Nat} {S:List Int} (h:Seen W b n S) (hn:n≤n'):Seen W b n' S:=by
 obtain ⟨D,h1,h2⟩:=h
 exact ⟨D,h1.mono hn,h2⟩
theorem Seen.lt {W:World} {b n:Nat} {S:List Int} (h:Seen W b n S):b<W.heap.size:=by
 obtain ⟨D,⟨es,clock,hb,r⟩,h2⟩:=h
 exact map_lt hb
theorem elem_bool {P:Program} {e:TypeId} (he:P.underlying e=some .bool) {v:Value} {c:Bool} {ps:List MemPlace} (h:plainElem (H:=Unit) P e v=some (.lit (.bool c),ps)):v=.bool c:=by
 unfold plainElem at h
 rw[he] at h
 cases v <;> simp at h
 rw[h.1]
theorem i64_wf (x:Int) (h: -9223372036854775808≤x∧x≤9223372036854775807):(Lit.int .i64 x).wf=true:=WalkArith.wf_i64 (by omega)
theorem Seen.look {W:World} {b n:Nat} {S:List Int} (h:Seen W b n S) (x:Int) (hx: -9223372036854775808≤x∧x≤9223372036854775807) :
  (Instr.lookup 57 (.map (some b)) (.int .i64 x) false).run Tryz.prog W=.ok (.bool (decide (x∈S))) W:=by
 obtain ⟨D,h1,h2⟩:=h
 obtain ⟨v,ps,hrun,hv⟩:=h1.lookup (Maps.int_keyed Tryz.underlying3) Tryz.underlying57 (zero_bool W) (plainElem_bool Tryz.underlying4 false) (Maps.keyOf_int_mk Tryz.underlying3 (i64_wf x hx))
 rw[h2] at hv
 rw[elem_bool Tryz.underlying4 hv] at hrun
 exact hrun
theorem Seen.store {W:World} {b n:Nat} {S:List Int} (h:Seen W b n S) (hn:n<maxLen) (x:Int) (hx: -9223372036854775808≤x∧x≤9223372036854775807) :
  ∃W',(Instr.mapUpdate 57 (.map (some b)) (.int .i64 x) (.bool true)).run Tryz.prog W=.ok () W'∧Seen W' b (n+1) (S++ [x])∧W.grownBy W' (some b):=by
 obtain ⟨D,h1,h2⟩:=h
 have hk:=Maps.keyOf_int_mk Tryz.underlying3 (i64_wf x hx)
 obtain ⟨W',hrun,h3,h4⟩:=h1.update (Maps.int_keyed Tryz.underlying3) Tryz.underlying57 hn hk (plainElem_bool Tryz.underlying4 true)
 refine ⟨W',hrun,⟨_,h3,fun y=>?_⟩,h4⟩
 by_cases e:y=x
 ·subst e
  rw[Maps.atKey_put_same h1.isMap ((Maps.int_keyed Tryz.underlying3).key hk)]
  simp
 ·rw[Maps.atKey_put_other (by intro hc;injection hc with _ hc;exact e hc),h2]
  simp[e]
def SnIn (W:World) (mp len:Nat) (f:Nat→Option Nat):Prop:=
 ∃n D,W.ownsMap Tryz.prog 3 valElem mp n D∧n≤len∧(∀b,len≤b→f b=none)∧∀x:Int,(∀b:Nat,x=(b:Int)→∀v,f b=some v→Maps.has D (.int .i64 x)=true∧(∀z,D.atKey (.int .i64 x) z=.held (.int .i64 (v:Int))))∧((∀b:Nat,x=(b:Int)→f b=none)→Maps.has D (.int .i64 x)=false)
theorem zero_intv (w:World):(zeroValue 3).run Tryz.prog w=.ok (.int .i64 0) w:=by kernel_rfl
section
variable {W W':World} {mp len:Nat} {f:Nat→Option Nat} {G:Nat→Prop}
theorem SnIn.made (W:World) (len:Nat):SnIn (W.alloc (.map #[] 0)) W.heap.size len (fun _=>none):=
 ⟨0,_,World.ownsMap_made W _ _ _,Nat.zero_le _,fun _ _=>rfl,fun x=>⟨(fun b _ v h=>by cases h),fun _=>rfl⟩⟩
theorem SnIn.fr (h:SnIn W mp len f) (hf:Fr G W W') (hn:¬G mp):SnIn W' mp len f:=by
 obtain ⟨n,D,h1,h2⟩:=h
 exact ⟨n,D,owns_fr h1 hf hn,h2⟩
theorem SnIn.look (h:SnIn W mp len f) (b:Nat) (hb:b≤1000000) :
  (Instr.lookup 56 (.map (some mp)) (.int .i64 (b:Int)) true).run Tryz.prog W=.ok (.tuple #[.int .i64 (((f b).getD 0:Nat):Int),.bool (f b).isSome]) W:=by
 obtain ⟨n,D,h1,h2,h3,h4⟩:=h
 obtain ⟨v,ps,hrun,hv⟩:=h1.look_ok (Maps.int_keyed Tryz.underlying3) Tryz.underlying56 (zero_intv W) (zd:=.held (.int .i64 0)) (zp:=[]) rfl (ChIn.key (x:=(b:Int)) (by omega))
 have hv2:D.atKey (.int .i64 (b:Int)) (.held (.int .i64 0))=.held v:=by
  unfold valElem at hv
  injection hv with hv
  injection hv with hv _
  exact hv.symm
 rcases hc:f b with _|nd
 ·have hh:Maps.has D (.int .i64 (b:Int))=false:=(h4 b).2 (fun b' hb'=>by
   have:b=b':=by omega
   subst this
   exact hc)
  rw[Maps.atKey_of_not_has hh] at hv2
  injection hv2 with hv2
  rw[hh,←hv2] at hrun
  exact hrun
 ·obtain ⟨u1,u2⟩:=(h4 b).1 b rfl nd hc
  rw[u2] at hv2
  injection hv2 with hv2
  rw[u1,←hv2] at hrun
  exact hrun
theorem SnIn.store (h:SnIn W mp len f) {b:Nat} (hb:b<len) (hlen:len≤1000000) (v:Nat) :
  ∃W',(Instr.mapUpdate 56 (.map (some mp)) (.int .i64 (b:Int)) (.int .i64 (v:Int))).run Tryz.prog W=.ok () W'∧SnIn W' mp len (fun u=>if u=b then some v else f u)∧Fr (· =mp) W W':=by
 obtain ⟨n,D,h1,h2,h3,h4⟩:=h
 have K:=Maps.int_keyed (P:=Tryz.prog) Tryz.underlying3
 have hk:=ChIn.key (x:=(b:Int)) (by omega)
 obtain ⟨W',hrun,a1,a2⟩:=h1.store K Tryz.underlying56 (by simp only[maxLen];omega) hk (show valElem (.int .i64 (v:Int))=some (.held (.int .i64 (v:Int)),[]) from rfl)
 have hfr:Fr (· =mp) W W':=Fr.of_grown a2.grown
 have hne:∀x:Int,x≠(b:Int)→(Lit.int .i64 x:Lit)≠.int .i64 (b:Int):=fun x hx e=>by injection e with _ e;exact hx e
 have hbnd:=owns_bound (len:=len) a1 (fun x hx=>by
  by_cases e:x=(b:Int)
  ·omega
  ·rw[Maps.has_put_other (hne x e)] at hx
   rcases Classical.em (∃u:Nat,x=(u:Int)∧f u≠none) with ⟨u,e1,e2⟩|hno
   ·have:u<len:=by
     rcases Nat.lt_or_ge u len with hu|hu
     ·exact hu
     ·exact absurd (h3 u hu) e2
    omega
   ·have:=(h4 x).2 (fun u hu=>by
     rcases hc:f u with _|q
     ·rfl
     ·exact absurd ⟨u,hu,by rw[hc];simp⟩ hno)
    rw[this] at hx
    cases hx)
 refine ⟨W',hrun,⟨len,_,hbnd,Nat.le_refl _,fun u hu=>?_,fun x=>?_⟩,hfr⟩
 ·show (if u=b then _ else _)=_
  rw[if_neg (by omega)]
  exact h3 u hu
 ·by_cases e:x=(b:Int)
  ·subst e
   refine ⟨fun u hu nd' hn=>?_,fun hn=>?_⟩
   ·obtain rfl:u=b:=by omega
    dsimp only at hn
    rw[if_pos rfl] at hn
    injection hn with hn
    subst hn
    exact ⟨Maps.has_put_same h1.isMap (K.key hk) _,fun z=>Maps.atKey_put_same h1.isMap (K.key hk) _ _⟩
   ·have:=hn b rfl
    dsimp only at this
    rw[if_pos rfl] at this
    cases this
  ·refine ⟨fun u hu nd' hn=>?_,fun hn=>?_⟩
   ·have hub:u≠b:=fun q=>e (by rw[hu,q])
    dsimp only at hn
    rw[if_neg hub] at hn
    obtain ⟨u1,u2⟩:=(h4 x).1 u hu nd' hn
    exact ⟨by rw[Maps.has_put_other (hne x e)];exact u1,fun z=>by rw[Maps.atKey_put_other (hne x e)];exact u2 z⟩
   ·rw[Maps.has_put_other (hne x e)]
    refine (h4 x).2 (fun u hu=>?_)
    have hub:u≠b:=fun q=>e (by rw[hu,q])
    have:=hn u hu
    dsimp only at this
    rwa[if_neg hub] at this
end
end
end Go.Proofs.YtplhdjdkobddnaaGreat
