/- MwE ThA ThB -/
import Derived.Test.YtplhdjdkobddnaaGreatTr17
set_option linter.unusedVariables false
set_option maxRecDepth 100000
set_option maxHeartbeats 40000000
namespace Go.Proofs.YtplhdjdkobddnaaGreat
section
open Go.RowKit
attribute [local go_sem] Oper.semAt_some
theorem padN_pad (l:List Nat) (h:l.length≤16):padN (padN l)=padN l:=by
 have:=padN_length l h
 rw[show padN (padN l)=padN l++List.replicate (16 - (padN l).length) 0 from rfl,this]
 simp
theorem sealN_pad (l:List Nat) (h:l.length≤16):sealN (padN l)=sealN l:=by unfold sealN;rw[padN_pad l h]
theorem padN_at (l:List Nat) (j:Nat):(padN l)[j]?.getD 0=l[j]?.getD 0:=by
 unfold padN
 rw[List.getElem?_append]
 split
 ·rfl
 ·rename_i h
  rw[List.getElem?_eq_none (show l.length≤j by omega),List.getElem?_replicate]
  split <;> rfl
theorem sealN_len (l:List Nat) (h:l.length≤16):(sealN l).length=16:=by
 unfold sealN
 rw[List.length_set,padN_length l h]
theorem rt_facts (b seq tree time data chunk area sum:Nat) (hb:b<4096) :
  (rtW b seq tree time data chunk area sum).length=16∧sealedN (rtW b seq tree time data chunk area sum) 1 (b:Int)=0∧(∀j,0<j→(rtW b seq tree time data chunk area sum)[j]?.getD 0=(rtL b seq tree time data chunk area sum)[j]?.getD 0):=by
 have hl:(rtL b seq tree time data chunk area sum).length≤16:=by simp[rtL]
 have hp:=padN_length _ hl
 have hh:hdN 1 0 0 (b:Int)=(1+b * 4096)+19796 * 281474976710656:=by unfold hdN;omega
 have h0:(padN (rtL b seq tree time data chunk area sum))[0]?.getD 0=(1+b * 4096)+19796 * 281474976710656:=by
  rw[padN_at,←hh]
  rfl
 obtain ⟨e1,e2⟩:=seal_parts (padN (rtL b seq tree time data chunk area sum)) (1+b * 4096) 19796 (by omega) (by omega) hp h0
 rw[sealN_pad _ hl] at e1 e2
 have hs:=sumN_lt (padN (rtL b seq tree time data chunk area sum))
 unfold rtW
 refine ⟨by rw[e1,List.length_set,hp],?_,?_⟩
 ·have e3:(sealN (rtL b seq tree time data chunk area sum))[0]?.getD 0=(1+b * 4096)+sumN (padN (rtL b seq tree time data chunk area sum)) * 4294967296+19796 * 281474976710656:=by
   rw[e1,List.getElem?_set_self (by rw[hp];omega)]
   rfl
  unfold sealedN
  rw[if_neg (by rw[e1,List.length_set,hp];omega),e3,e2]
  generalize sumN (padN (rtL b seq tree time data chunk area sum))=s at *
  rw[if_neg (by omega),if_neg (by omega),if_neg (by omega)]
 ·intro j hj
  rw[e1,List.getElem?_set_ne (by omega),padN_at]
theorem rt_zero (b seq tree time data chunk area sum j:Nat) (hb:b<4096) (hj:8≤j):(rtW b seq tree time data chunk area sum)[j]?.getD 0=0:=by
 rw[(rt_facts b seq tree time data chunk area sum hb).2.2 j (by omega),List.getElem?_eq_none (by simp[rtL];omega)]
 rfl
theorem rt_reads {W:World} {g m c:Nat} {ws:List Nat} (hA:W.ownsRow 0 39 1 (.slice (some ⟨g,0,none⟩) m c) m (uv ws)) (hm:ws.length=m) {b:Nat} (hb:(b+1) * 16≤m) (w:World) (hw:Below W.heap.size W w):Reads w (some ⟨g,b * 16,none⟩) (uv (blkW ws b))∧∀i,i<16→w.cell? ⟨g,b * 16+i,none⟩=some (.int .u64 (((blkW ws b)[i]?.getD 0:Nat):Int)):=by
 have h1:=own_keepU' hA hw
 subst hm
 have h2:=blk_reads h1 hb
 refine ⟨h2,fun i hi=>?_⟩
 have h16:=blk_len hb
 have h3:=h1.cellAt (b * 16+i) (by omega)
 rw[uv_at _ _ (by omega)] at h3
 rw[h3]
 unfold blkW
 rw[List.getElem?_take,if_pos hi,List.getElem?_drop]
theorem rroot_ok (g m c b:Nat) (ws:List Nat) (h:Hdr) (W:World) (hm:ws.length=m) (hA:W.ownsRow 0 39 1 (.slice (some ⟨g,0,none⟩) m c) m (uv ws)) (hw':W64 ws) (hl:m≤1000000) (hk:HdrOk h b m) (hc16:blkW ws b=rtW b h.seq h.tree h.time h.data h.chunk h.area h.sum) (ht:h.tree<18446744073709551616) (hsm:h.sum<18446744073709551616) :
  Calls Tryz.prog 15 #[.slice (some ⟨g,0,none⟩) m c,.int .i64 (b:Int)] W fun e w'=>e=.returned (.tuple #[h.v,.bool true])∧Below W.heap.size W w':=by
 have hb:=hk.lt
 have HB:=Hi (fun w=>rblocks_any m w (by omega))
 have hbb:b<4096∧(b+1) * 16≤m:=by unfold blN at hb;omega
 have hcap:=own_cap hA
 have HR:Hid (∀w,Calls Tryz.prog 22 #[.slice (some ⟨g,0,none⟩) m c,.int .i64 (b:Int)] w fun e w'=>e=.returned (.slice (some ⟨g,b * 16,none⟩) 16 (c - b * 16))∧w=w'):=fun w=>by
  have:=rblock_any ⟨g,0,none⟩ m c b w (by omega) hcap hl
  rw[Addr.add_lit,Nat.zero_add] at this
  exact this
 have d0:¬(b:Int)<0:=by omega
 have d1:¬(blN m:Int)≤(b:Int):=by omega
 obtain ⟨bn,hbn⟩ :∃q,blN m=q:=⟨_,rfl⟩
 rw[hbn] at HB d1
 obtain ⟨f1,f2,f3⟩:=rt_facts b h.seq h.tree h.time h.data h.chunk h.area h.sum hbb.1
 have f4:∀j,8≤j→(rtW b h.seq h.tree h.time h.data h.chunk h.area h.sum)[j]?.getD 0=0:=fun j hj=>rt_zero _ _ _ _ _ _ _ _ j hbb.1 hj
 have HRD:=Hi (rt_reads hA hm hbb.2)
 rw[hc16] at HRD
 have hse:Hid (∀w,Below W.heap.size W w→Calls Tryz.prog 56 #[.slice (some ⟨g,b * 16,none⟩) 16 (c - b * 16),.int .i64 1,.int .i64 (b:Int)] w fun e w'=>e=.returned (.int .i64 0)∧Below w.heap.size w w'):=fun w hw=>by
  have:=refSealed_any (some ⟨g,b * 16,none⟩) (c - b * 16) 16 (blkW ws b) 1 (b:Int) w (by rw[hc16];exact f1) (by rw[hc16];exact (HRD.out w hw).1) (blk_w hw' b) (by omega)
  rw[hc16,f2] at this
  exact this
 have hh:=Hi (fun w=>refHeader_any 1 0 0 (b:Int) w)
 have hhl:=hdN_lt 1 0 0 (b:Int)
 have HL:Hid (rtL b h.seq h.tree h.time h.data h.chunk h.area h.sum= [hdN 1 0 0 (b:Int),h.seq,h.tree,h.time,h.data,h.chunk,h.area,h.sum]):=rfl
 have HS:Hid (rtW b h.seq h.tree h.time h.data h.chunk h.area h.sum=sealN (rtL b h.seq h.tree h.time h.data h.chunk h.area h.sum)):=rfl
 obtain ⟨hd,hhd⟩ :∃q,hdN 1 0 0 (b:Int)=q:=⟨_,rfl⟩
 rw[hhd] at hh hhl HL
 obtain ⟨L,hL⟩ :∃L,rtW b h.seq h.tree h.time h.data h.chunk h.area h.sum=L:=⟨_,rfl⟩
 rw[hL] at HRD HS f1 f3 f4
 obtain ⟨x0,hx0⟩ :∃q,L[0]?.getD 0=q:=⟨_,rfl⟩
 have g1:=f3 1 (by omega)
 have g2:=f3 2 (by omega)
 have g3:=f3 3 (by omega)
 have g4:=f3 4 (by omega)
 have g5:=f3 5 (by omega)
 have g6:=f3 6 (by omega)
 have g7:=f3 7 (by omega)
 rw[HL.out] at g1 g2 g3 g4 g5 g6 g7
 obtain ⟨seq,time,data,chunk,area,tree,sum⟩:=h
 obtain ⟨k1,k2,k3,k4,k5,k6,k7,k8,k9,k10⟩:=hk
 dsimp only at *
 have HC:Hid (∀w,Below W.heap.size W w→w.cell? ⟨g,b * 16,none⟩=some (.int .u64 (x0:Int))∧w.cell? ⟨g,b * 16+1,none⟩=some (.int .u64 (seq:Int))∧w.cell? ⟨g,b * 16+2,none⟩=some (.int .u64 (tree:Int))∧w.cell? ⟨g,b * 16+3,none⟩=some (.int .u64 (time:Int))∧w.cell? ⟨g,b * 16+4,none⟩=some (.int .u64 (data:Int))∧w.cell? ⟨g,b * 16+5,none⟩=some (.int .u64 (chunk:Int))∧w.cell? ⟨g,b * 16+6,none⟩=some (.int .u64 (area:Int))∧w.cell? ⟨g,b * 16+7,none⟩=some (.int .u64 (sum:Int))):=fun w hw=>by
  have hc:=(HRD.out w hw).2
  refine ⟨(hc 0 (by omega)).trans (by rw[hx0]),(hc 1 (by omega)).trans (by rw[g1];rfl),(hc 2 (by omega)).trans (by rw[g2];rfl),(hc 3 (by omega)).trans (by rw[g3];rfl),(hc 4 (by omega)).trans (by rw[g4];rfl),(hc 5 (by omega)).trans (by rw[g5];rfl),(hc 6 (by omega)).trans (by rw[g6];rfl),(hc 7 (by omega)).trans (by rw[g7];rfl)⟩
 have HZ:Hid (∀w i,Below W.heap.size W w→8≤i→i<16→w.cell? ⟨g,b * 16+i,none⟩=some (.int .u64 0)):=fun w i hw h1 h2=>by
  rw[(HRD.out w hw).2 i h2,f4 i h1]
  rfl
 have HX:Hid (L[0]?.getD 0=x0):=hx0
 have HOK:Hid (HdrOk ⟨seq,time,data,chunk,area,tree,sum⟩ b m):=⟨k1,k2,k3,k4,k5,k6,k7,k8,k9,k10⟩
 clear hbn hhd hx0 g1 g2 g3 g4 g5 g6 g7 f1 f2 f3 f4 hL hc16 hA hw' hb
 go_enter Tryz.func15,Tryz.ntmps15
 go_wp2_with fail
 refine (HB.out _).mono ?_
 rintro e w' ⟨rfl,rfl⟩
 go_wp2_with fail
 refine (HR.out _).mono ?_
 rintro e w' ⟨rfl,rfl⟩
 go_wp2_with fail
 have B1:Below W.heap.size W (W.alloc (.cells #[.int .i64 0,.int .i64 0,.int .i64 0,.int .i64 0,.int .i64 0,.int .u64 0,.int .u64 0] 41)):=(Below.refl _ W).alloc (Nat.le_refl _) _
 have C1:=Cs.new W 41 #[.int .i64 0,.int .i64 0,.int .i64 0,.int .i64 0,.int .i64 0,.int .u64 0,.int .u64 0]
 have hz1:W.heap.size<(W.alloc (.cells #[.int .i64 0,.int .i64 0,.int .i64 0,.int .i64 0,.int .i64 0,.int .u64 0,.int .u64 0] 41)).heap.size:=C1.lt
 generalize (W.alloc (.cells #[.int .i64 0,.int .i64 0,.int .i64 0,.int .i64 0,.int .i64 0,.int .u64 0,.int .u64 0] 41))=W1 at *
 refine wp_region_scr [(true,0),(true,1),(false,2),(true,3),(true,4),(true,5),(true,6),(true,7),(true,8),(true,10),(true,11),(true,12),(true,13),(true,14),(true,15),(true,16),(true,17),(true,18),(true,19),(true,20),(true,21),(true,22),(true,23),(true,24),(true,25),(true,26),(true,27),(true,28),(true,29),(true,30),(false,9),(false,31),(false,32),(false,33),(false,34),(false,35)] [36] 36 (by kernel_rfl) (by decide +kernel) (fun w=>w.cell? ⟨g,b * 16,none⟩=some (.int .u64 (x0:Int))∧w.cell? ⟨g,b * 16+1,none⟩=some (.int .u64 (seq:Int))∧w.cell? ⟨g,b * 16+2,none⟩=some (.int .u64 (tree:Int))∧w.cell? ⟨g,b * 16+3,none⟩=some (.int .u64 (time:Int))∧w.cell? ⟨g,b * 16+4,none⟩=some (.int .u64 (data:Int))∧w.cell? ⟨g,b * 16+5,none⟩=some (.int .u64 (chunk:Int))∧w.cell? ⟨g,b * 16+6,none⟩=some (.int .u64 (area:Int))∧w.cell? ⟨g,b * 16+7,none⟩=some (.int .u64 (sum:Int))) (HC.out _ B1.drew) ?_
 simp only[pickS,pickL,List.getElem?_toArray,List.getElem?_cons_zero,List.getElem?_cons_succ]
 iterate 2
  refine ⟨?_,Or.inl ⟨by rfl,fun W' hS'=>?_⟩,fun _ _ _ h=>h,?_⟩
  rotate_left
  ·go_simp
   with_reducible rfl
  simp only[Act.put,List.setIfInBounds_toArray,List.set_cons_zero,List.set_cons_succ]
 refine wpScr_step (fun K hK=>?_)
 go_simp
 go_at_call 56
 refine (hse.out _ B1.drew).mono ?_
 rintro e w3 ⟨rfl,hb3⟩
 have B3:Below W.heap.size W w3:=B1.drew.trans (hb3.mono B1.drew.size)
 have C3:Cs w3 W.heap.size 41 #[.int .i64 0,.int .i64 0,.int .i64 0,.int .i64 0,.int .i64 0,.int .u64 0,.int .u64 0]:=Cs.below (w:=W1.drew) C1 hb3 hz1
 refine hK _ _ (HC.out _ B3) ?_
 clear hK K
 iterate 27
  refine ⟨?_,Or.inl ⟨by rfl,fun W' hS'=>?_⟩,fun _ _ _ h=>h,?_⟩
  rotate_left
  ·obtain ⟨y0,y1,y2,y3,y4,y5,y6,y7⟩:=hS'
   go_simp
   with_reducible rfl
  simp only[Act.put,List.setIfInBounds_toArray,List.set_cons_zero,List.set_cons_succ]
 refine wpScr_step (fun K hK=>?_)
 go_simp
 go_at_call 57
 refine (hh.out _).mono ?_
 rintro e w4 ⟨rfl,rfl⟩
 refine hK _ _ (HC.out _ B3) ?_
 clear hK K
 have B4:Below W.heap.size W (w3.alloc (.cells #[.int .u64 (hd:Int),.int .u64 (seq:Int),.int .u64 (tree:Int),.int .u64 (time:Int),.int .u64 (data:Int),.int .u64 (chunk:Int),.int .u64 (area:Int),.int .u64 (sum:Int)] 39)):=B3.alloc B3.size _
 have C4:Cs (w3.alloc (.cells #[.int .u64 (hd:Int),.int .u64 (seq:Int),.int .u64 (tree:Int),.int .u64 (time:Int),.int .u64 (data:Int),.int .u64 (chunk:Int),.int .u64 (area:Int),.int .u64 (sum:Int)] 39)) W.heap.size 41 #[.int .i64 0,.int .i64 0,.int .i64 0,.int .i64 0,.int .i64 0,.int .u64 0,.int .u64 0]:=Cs.below C3 ((Below.refl _ w3).alloc (Nat.le_refl _) _) C3.lt
 refine wpScr_step (fun K hK=>?_)
 go_simp
 refine hK _ _ (HC.out _ B4) ?_
 clear hK K
 have HSL:=Hi (refSeal_any (some ⟨w3.heap.size,0,none⟩) 8 8 (rtL b seq tree time data chunk area sum) (w3.alloc (.cells #[.int .u64 (hd:Int),.int .u64 (seq:Int),.int .u64 (tree:Int),.int .u64 (time:Int),.int .u64 (data:Int),.int .u64 (chunk:Int),.int .u64 (area:Int),.int .u64 (sum:Int)] 39)) (by rw[HL.out];rfl) (by
  rw[HL.out]
  exact Reads.new w3 #[.int .u64 (hd:Int),.int .u64 (seq:Int),.int .u64 (tree:Int),.int .u64 (time:Int),.int .u64 (data:Int),.int .u64 (chunk:Int),.int .u64 (area:Int),.int .u64 (sum:Int)] 39) (by
  rw[HL.out]
  intro x hx
  simp only[List.mem_cons,List.not_mem_nil,or_false] at hx
  omega) (by omega))
 generalize (w3.alloc (.cells #[.int .u64 (hd:Int),.int .u64 (seq:Int),.int .u64 (tree:Int),.int .u64 (time:Int),.int .u64 (data:Int),.int .u64 (chunk:Int),.int .u64 (area:Int),.int .u64 (sum:Int)] 39))=w4 at *
 refine wpScr_step (fun K hK=>?_)
 go_simp
 go_at_call 46
 refine HSL.out.mono ?_
 rintro e w5 ⟨g5,rfl,hown5,hb5⟩
 have B5:Below W.heap.size W w5:=B4.trans (hb5.mono B4.size)
 have C5:=Cs.below C4 hb5 C4.lt
 have y0:=hown5.cellAt 0 (by omega)
 rw[←HS.out,uv_at _ _ (by rw[HS.out,sealN_len _ (by rw[HL.out];simp)];omega),HX.out] at y0
 refine hK _ _ (HC.out _ B5) ?_
 clear hK K
 iterate 3
  refine wpScr_step (fun K hK=>?_)
  go_simp
  refine hK _ _ (HC.out _ B5) ?_
  clear hK K
 refine wpSeqL_list _ _ _ (by simp) ?_
 simp only[List.map_cons,List.map_nil]
 go_wp2_with fail
 clear HSL hown5 hb5 hb3 C4 C3 C1 B4 B3 B1 hz1 y0
 go_loop [7] (fun i=>∃k:Nat,8≤k∧k≤16∧i=.int .i64 k) (fun i=>16 - (intOf i).toNat)
 case atStart=>exact ⟨8,by omega,by omega,rfl⟩
 case round=>
  obtain ⟨k,hk8,hk16,rfl⟩:=hrel
  by_cases hlt:k<16
  ·have z:=HZ.out w5 k B5 hk8 hlt
   have d2:(k:Int)<16:=by omega
   have d3:(0:Int)≤(k:Int):=by omega
   go_wp2_with fail
   go_round
   case rel=>exact ⟨k+1,by omega,by omega,by go_num⟩
   case measure=>simp[intOf];omega
  ·obtain rfl:k=16:=by omega
   obtain ⟨y0,y1,y2,y3,y4,y5,y6,y7⟩:=HC.out w5 B5
   have e1:¬(16777215:Int)<(seq:Int):=by omega
   have e2:¬(1048575:Int)<(time:Int):=by omega
   have e3:¬(data:Int)<1:=by omega
   have e4:¬(16384:Int)<(data:Int):=by omega
   have e5:¬(chunk:Int)<1:=by omega
   have e6:¬(64:Int)<(chunk:Int):=by omega
   have e7:¬(1:Int)<(area:Int):=by omega
   go_wp2_with fail
   have n1:IntKind.i64.wrap (seq:Int)=seq:=IntWalk.i64_in _ (by omega)
   have n2:IntKind.i64.wrap (time:Int)=time:=IntWalk.i64_in _ (by omega)
   have n3:IntKind.i64.wrap (data:Int)=data:=IntWalk.i64_in _ (by omega)
   have n4:IntKind.i64.wrap (chunk:Int)=chunk:=IntWalk.i64_in _ (by omega)
   have n5:IntKind.i64.wrap (area:Int)=area:=IntWalk.i64_in _ (by omega)
   clear y0 y1 y2 y3 y4 y5 y6 y7
   refine wp_region_scr [(true,0),(true,1),(true,2),(true,3),(true,4),(true,5),(true,6),(true,7),(true,8),(true,9),(true,10),(true,11),(true,12),(true,13),(true,14),(true,15),(true,16),(true,17),(true,18),(true,19),(true,20),(true,21),(true,22),(true,23),(true,24),(true,25),(true,26),(false,27)] [28] 28 (by kernel_rfl) (by decide +kernel) (fun w=>w.cell? ⟨g,b * 16,none⟩=some (.int .u64 (x0:Int))∧w.cell? ⟨g,b * 16+1,none⟩=some (.int .u64 (seq:Int))∧w.cell? ⟨g,b * 16+2,none⟩=some (.int .u64 (tree:Int))∧w.cell? ⟨g,b * 16+3,none⟩=some (.int .u64 (time:Int))∧w.cell? ⟨g,b * 16+4,none⟩=some (.int .u64 (data:Int))∧w.cell? ⟨g,b * 16+5,none⟩=some (.int .u64 (chunk:Int))∧w.cell? ⟨g,b * 16+6,none⟩=some (.int .u64 (area:Int))∧w.cell? ⟨g,b * 16+7,none⟩=some (.int .u64 (sum:Int))) (HC.out _ B5.drew) ?_
   simp only[pickS,pickL,List.getElem?_toArray,List.getElem?_cons_zero,List.getElem?_cons_succ]
   iterate 27
    refine ⟨?_,Or.inl ⟨by rfl,fun W' hS'=>?_⟩,fun _ _ _ h=>h,?_⟩
    rotate_left
    ·obtain ⟨y0,y1,y2,y3,y4,y5,y6,y7⟩:=hS'
     go_simp
     with_reducible rfl
    simp only[Act.put,List.setIfInBounds_toArray,List.set_cons_zero,List.set_cons_succ]
   refine wpScr_step (fun K hK=>?_)
   go_simp
   refine hK _ _ (HC.out _ (B5.drew.alloc B5.size _)) ?_
   clear hK K
   refine wpSeqL_list _ _ _ (by simp) ?_
   simp only[List.map_cons,List.map_nil]
   go_wp2_with fail
   have C6:Cs (w5.alloc (.cells #[.int .i64 (seq:Int),.int .i64 (time:Int),.int .i64 (data:Int),.int .i64 (chunk:Int),.int .i64 (area:Int),.int .u64 (tree:Int),.int .u64 (sum:Int)] 41)).drew w5.heap.size 41 #[.int .i64 (seq:Int),.int .i64 (time:Int),.int .i64 (data:Int),.int .i64 (chunk:Int),.int .i64 (area:Int),.int .u64 (tree:Int),.int .u64 (sum:Int)]:=Cs.new w5 _ _
   have CR:Cs (w5.alloc (.cells #[.int .i64 (seq:Int),.int .i64 (time:Int),.int .i64 (data:Int),.int .i64 (chunk:Int),.int .i64 (area:Int),.int .u64 (tree:Int),.int .u64 (sum:Int)] 41)).drew W.heap.size 41 #[.int .i64 0,.int .i64 0,.int .i64 0,.int .i64 0,.int .i64 0,.int .u64 0,.int .u64 0]:=Cs.below C5 (B:=w5.heap.size) ((Below.refl _ w5).alloc (Nat.le_refl _) _).drew C5.lt
   have B6:Below W.heap.size W (w5.alloc (.cells #[.int .i64 (seq:Int),.int .i64 (time:Int),.int .i64 (data:Int),.int .i64 (chunk:Int),.int .i64 (area:Int),.int .u64 (tree:Int),.int .u64 (sum:Int)] 41)).drew:=(B5.alloc B5.size _).drew
   have hgb:W.heap.size≠w5.heap.size:=fun e=>by have:=C5.lt;omega
   generalize (w5.alloc (.cells #[.int .i64 (seq:Int),.int .i64 (time:Int),.int .i64 (data:Int),.int .i64 (chunk:Int),.int .i64 (area:Int),.int .u64 (tree:Int),.int .u64 (sum:Int)] 41)).drew=w6 at *
   obtain ⟨gb,hgbe⟩ :∃q,w5.heap.size=q:=⟨_,rfl⟩
   rw[hgbe] at C6 hgb ⊢
   have hsz:=Hi (fun w=>rsize27_any (data:Int) w)
   have hszv:szM (data:Int)=(2 * (arB data:Int)+49) * 16:=by unfold szM;rw[if_neg (by omega),Int.toNat_natCast]
   rw[hszv] at hsz
   have har:=Hi (fun w=>rareas_any data w (by omega))
   obtain ⟨a,ha⟩ :∃q,arB data=q:=⟨_,rfl⟩
   rw[ha] at hsz har k8 k9
   have d8:(2 * (a:Int)+49) * 16≤(m:Int):=by omega
   have d9:2 * (a:Int)<(b:Int):=by omega
   have e8:IntKind.i64.wrap (2 * (a:Int))=2 * (a:Int):=IntWalk.i64_in _ (by omega)
   have HS2:Hid (∀i,w6.drew.cell? ⟨gb,i,none⟩=(#[.int .i64 (seq:Int),.int .i64 (time:Int),.int .i64 (data:Int),.int .i64 (chunk:Int),.int .i64 (area:Int),.int .u64 (tree:Int),.int .u64 (sum:Int)]:Array Value)[i]?):=fun i=>C6.cell i
   refine wp_region_scr [(true,0),(true,1),(true,2),(true,3),(true,4),(false,5),(true,6),(true,7),(true,8),(true,9),(true,10),(false,11),(true,12),(true,13),(true,14),(false,15)] [16] 16 (by kernel_rfl) (by decide +kernel) (fun w=>w.cell? ⟨gb,0,none⟩=some (.int .i64 (seq:Int))∧w.cell? ⟨gb,1,none⟩=some (.int .i64 (time:Int))∧w.cell? ⟨gb,2,none⟩=some (.int .i64 (data:Int))∧w.cell? ⟨gb,3,none⟩=some (.int .i64 (chunk:Int))∧w.cell? ⟨gb,4,none⟩=some (.int .i64 (area:Int))∧w.cell? ⟨gb,5,none⟩=some (.int .u64 (tree:Int))∧w.cell? ⟨gb,6,none⟩=some (.int .u64 (sum:Int))) ⟨C6.cell 0,C6.cell 1,C6.cell 2,C6.cell 3,C6.cell 4,C6.cell 5,C6.cell 6⟩ ?_
   simp only[pickS,pickL,List.getElem?_toArray,List.getElem?_cons_zero,List.getElem?_cons_succ]
   iterate 5
    refine ⟨?_,Or.inl ⟨by rfl,fun W' hS'=>?_⟩,fun _ _ _ h=>h,?_⟩
    rotate_left
    ·obtain ⟨y0,y1,y2,y3,y4,y5,y6⟩:=hS'
     go_simp
     with_reducible rfl
    simp only[Act.put,List.setIfInBounds_toArray,List.set_cons_zero,List.set_cons_succ]
   refine wpScr_step (fun K hK=>?_)
   go_simp
   go_at_call 35
   refine (hsz.out _).mono ?_
   rintro e w7 ⟨rfl,rfl⟩
   refine hK _ _ ⟨C6.cell 0,C6.cell 1,C6.cell 2,C6.cell 3,C6.cell 4,C6.cell 5,C6.cell 6⟩ ?_
   clear hK K
   iterate 5
    refine ⟨?_,Or.inl ⟨by rfl,fun W' hS'=>?_⟩,fun _ _ _ h=>h,?_⟩
    rotate_left
    ·obtain ⟨y0,y1,y2,y3,y4,y5,y6⟩:=hS'
     go_simp
     with_reducible rfl
    simp only[Act.put,List.setIfInBounds_toArray,List.set_cons_zero,List.set_cons_succ]
   refine wpScr_step (fun K hK=>?_)
   go_simp
   go_at_call 48
   refine (har.out _).mono ?_
   rintro e w7 ⟨rfl,rfl⟩
   refine hK _ _ ⟨C6.cell 0,C6.cell 1,C6.cell 2,C6.cell 3,C6.cell 4,C6.cell 5,C6.cell 6⟩ ?_
   clear hK K
   iterate 3
    refine ⟨?_,Or.inl ⟨by rfl,fun W' hS'=>?_⟩,fun _ _ _ h=>h,?_⟩
    rotate_left
    ·obtain ⟨y0,y1,y2,y3,y4,y5,y6⟩:=hS'
     go_simp
     with_reducible rfl
    simp only[Act.put,List.setIfInBounds_toArray,List.set_cons_zero,List.set_cons_succ]
   have CD:Cs w6.drew W.heap.size 41 #[.int .i64 0,.int .i64 0,.int .i64 0,.int .i64 0,.int .i64 0,.int .u64 0,.int .u64 0]:=CR
   have C8:Cs w6.drew gb 41 #[.int .i64 (seq:Int),.int .i64 (time:Int),.int .i64 (data:Int),.int .i64 (chunk:Int),.int .i64 (area:Int),.int .u64 (tree:Int),.int .u64 (sum:Int)]:=C6
   have B8:=B6.drew
   clear CR C6 HS2 B6
   generalize w6.drew=w8 at CD C8 B8 ⊢
   have c0:=CD.cell 0
   have c1:=CD.cell 1
   have c2:=CD.cell 2
   have c3:=CD.cell 3
   have c4:=CD.cell 4
   have c5:=CD.cell 5
   have c6:=CD.cell 6
   have p0:=CD.free 0
   have p1:=CD.free 1
   have p2:=CD.free 2
   have p3:=CD.free 3
   have p4:=CD.free 4
   have p5:=CD.free 5
   have p6:=CD.free 6
   have hf:=Fr.set (b:=W.heap.size) (i:=6) (Fr.set (b:=W.heap.size) (i:=5) (Fr.set (b:=W.heap.size) (i:=4) (Fr.set (b:=W.heap.size) (i:=3) (Fr.set (b:=W.heap.size) (i:=2) (Fr.set (b:=W.heap.size) (i:=1) (fr_set w8 W.heap.size 0 (.int .i64 (seq:Int))) (.inl rfl) (.int .i64 (time:Int))) (.inl rfl) (.int .i64 (data:Int))) (.inl rfl) (.int .i64 (chunk:Int))) (.inl rfl) (.int .i64 (area:Int))) (.inl rfl) (.int .u64 (tree:Int))) (.inl rfl) (.int .u64 (sum:Int))
   refine wpScr_step (fun K hK=>?_)
   go_simp
   refine hK _ _ ⟨(hf.cell C8.lt (fun e=>hgb e.symm)).trans (C8.cell 0),(hf.cell C8.lt (fun e=>hgb e.symm)).trans (C8.cell 1),(hf.cell C8.lt (fun e=>hgb e.symm)).trans (C8.cell 2),(hf.cell C8.lt (fun e=>hgb e.symm)).trans (C8.cell 3),(hf.cell C8.lt (fun e=>hgb e.symm)).trans (C8.cell 4),(hf.cell C8.lt (fun e=>hgb e.symm)).trans (C8.cell 5),(hf.cell C8.lt (fun e=>hgb e.symm)).trans (C8.cell 6)⟩ ?_
   clear hK K
   refine wpSeqL_list _ _ _ (by simp) ?_
   simp only[List.map_cons,List.map_nil]
   go_wp2_with fail
   have HV:Hid ((Hdr.mk seq time data chunk area tree sum).v=.agg #[.int .i64 (seq:Int),.int .i64 (time:Int),.int .i64 (data:Int),.int .i64 (chunk:Int),.int .i64 (area:Int),.int .u64 (tree:Int),.int .u64 (sum:Int)]):=rfl
   rw[HV.out]
   refine bodyPost_ret (res_hdr rfl _ _ W.heap.size _ _ _ _ _ _ _ rfl (Cs.put7 CD (.int .i64 (seq:Int)) (.int .i64 (time:Int)) (.int .i64 (data:Int)) (.int .i64 (chunk:Int)) (.int .i64 (area:Int)) (.int .u64 (tree:Int)) (.int .u64 (sum:Int)))) rfl ?_
   exact ⟨rfl,below_put7 B8 (Nat.le_refl _) _ _ _ _ _ _ _⟩
end
section
open Go.RowKit
attribute [local go_sem] Oper.semAt_some
def thW:Nat→List Int
 |0=>[20,24,16,4]
 |1=>[20,20,24]
 |_=>[24,20]
theorem thfields_any (k:Nat) (hk:k<3) (w:World) :
  Calls Tryz.prog 64 #[.int .i64 (k:Int)] w fun e w'=>∃g,e=.returned (.slice (some ⟨g,0,none⟩) (thW k).length (thW k).length)∧Reads w' (some ⟨g,0,none⟩) (iv (thW k))∧w.heap.size≤g∧g<w'.heap.size∧Below w.heap.size w w':=by
 have bz:∀(w:World) (o:Obj),Below w.heap.size w (w.alloc o):=fun w o=>(Below.refl _ w).alloc (Nat.le_refl _) _
 have ha:∀(w:World) (o1 o2 o3:Obj),Below w.heap.size w (((w.alloc o1).alloc o2).alloc o3):=fun w o1 o2 o3=>((bz w o1).alloc (by simp) o2).alloc (by simp;omega) o3
 rcases k with _|_|_|k
 ·go_enter Tryz.func64,Tryz.ntmps64
  go_wp2_with fail
  go_ret
  refine ⟨w.heap.size,rfl,(Reads.new w #[.int .i64 20,.int .i64 24,.int .i64 16,.int .i64 4] 3).keep (ha _ _ _ _),Nat.le_refl _,by simp;omega,(bz w _).trans ((ha _ _ _ _).mono (by simp))⟩
 ·go_enter Tryz.func64,Tryz.ntmps64
  go_wp2_with fail
  go_ret
  have h1:=Reads.new (w.alloc (.cells #[.int .i64 20,.int .i64 24,.int .i64 16,.int .i64 4] 3)) #[.int .i64 20,.int .i64 20,.int .i64 24] 3
  rw[show (w.alloc (.cells #[.int .i64 20,.int .i64 24,.int .i64 16,.int .i64 4] 3)).heap.size=w.heap.size+1 by simp] at h1
  refine ⟨w.heap.size+1,rfl,h1.keep ((bz _ _).trans ((bz _ _).mono (by simp))),by omega,by simp,(bz w _).trans ((ha _ _ _ _).mono (by simp))⟩
 ·go_enter Tryz.func64,Tryz.ntmps64
  go_wp2_with fail
  go_ret
  have h1:=Reads.new ((w.alloc (.cells #[.int .i64 20,.int .i64 24,.int .i64 16,.int .i64 4] 3)).alloc (.cells #[.int .i64 20,.int .i64 20,.int .i64 24] 3)) #[.int .i64 24,.int .i64 20] 3
  rw[show ((w.alloc (.cells #[.int .i64 20,.int .i64 24,.int .i64 16,.int .i64 4] 3)).alloc (.cells #[.int .i64 20,.int .i64 20,.int .i64 24] 3)).heap.size=w.heap.size+1+1 by simp] at h1
  refine ⟨w.heap.size+1+1,rfl,h1.keep (bz _ _),by omega,by simp,(bz w _).trans ((ha _ _ _ _).mono (by simp))⟩
 ·omega
theorem thareas_any (data:Nat) (W:World) (hd:data≤1000000) :
  Calls Tryz.prog 30 #[.int .i64 (data:Int)] W fun e w'=>e=.returned (.int .i64 (arB data:Int))∧W=w':=by
 have e1:IntKind.i64.wrap ((data:Int)+64)=(data:Int)+64:=IntWalk.i64_in _ (by omega)
 have e2:IntKind.i64.wrap ((data:Int)+64 - 1)=((data+63:Nat):Int):=by rw[IntWalk.i64_in _ (by omega)];omega
 have e3:IntKind.i64.wrap (((data+63:Nat):Int).tdiv 64)=((arB data:Nat):Int):=by
  unfold arB
  rw[show (((data+63:Nat):Int).tdiv 64)=(((data+63) / 64:Nat):Int) from rfl]
  exact IntWalk.i64_in _ (by omega)
 go_enter Tryz.func30,Tryz.ntmps30
 go_wp2_with fail
 go_ret
 refine ⟨ret_int ?_,rfl⟩
 unfold arB
 omega
theorem thsize_any (data:Nat) (W:World) (h1:1≤data) (h2:data≤16384) :
  Calls Tryz.prog 67 #[.int .i64 (data:Int)] W fun e w'=>e=.returned (.int .i64 (((2 * arB data+49) * 16:Nat):Int))∧W=w':=by
 have ha:=Hi (thareas_any data W (by omega))
 obtain ⟨a,hab⟩ :∃q,arB data=q:=⟨_,rfl⟩
 have hal:a≤257:=by rw[←hab];unfold arB;omega
 rw[hab] at ha ⊢
 have d1:¬(data:Int)<1:=by omega
 have d2:decide ((16384:Int)<(data:Int))=false:=by rw[decide_eq_false_iff_not];omega
 have e1:IntKind.i64.wrap (2 * (a:Int))=2 * (a:Int):=IntWalk.i64_in _ (by omega)
 have e2:IntKind.i64.wrap (2 * (a:Int)+1)=2 * (a:Int)+1:=IntWalk.i64_in _ (by omega)
 have e3:IntKind.i64.wrap (2 * (a:Int)+1+48)=2 * (a:Int)+49:=by rw[IntWalk.i64_in _ (by omega)];omega
 have e4:IntKind.i64.wrap ((2 * (a:Int)+49) * 16)=(2 * (a:Int)+49) * 16:=IntWalk.i64_in _ (by omega)
 clear hab
 go_enter Tryz.func67,Tryz.ntmps67
 go_wp2_with fail
 refine ha.out.mono ?_
 rintro e w' ⟨rfl,rfl⟩
 go_wp2_with fail
 go_ret
 exact ⟨ret_int (by omega),rfl⟩
theorem thshort_any (A:Option Addr) (n c:Nat) (l:List Nat) (w:World) (hn:l.length=n) (hA:Reads w A (uv l)) (hl:W64 l) (hlen:n≤1000000) :
  Calls Tryz.prog 31 #[.slice A n c] w fun e w'=>e=.returned (.int .u64 ((shortC (extendC 0 l):Nat):Int))∧Below w.heap.size w w':=by
 have HW:=Hi (words_sum A c n l w hn hA hl hlen)
 go_enter Tryz.func31,Tryz.ntmps31
 go_wp2_with fail
 refine HW.out.mono ?_
 rintro e w3 ⟨rfl,hb3⟩
 go_wp2_with fail
 refine (short_any _ _ (extendC_lt _ _)).mono ?_
 rintro e w4 ⟨rfl,rfl⟩
 go_wp2_with fail
 go_ret
 refine ⟨ret_int ?_,hb3⟩
 rw[wrap_nat,Nat.mod_eq_of_lt (Nat.lt_of_lt_of_le (shortC_lt _) (by omega))]
end
section
open Go.RowKit
attribute [local go_sem] Oper.semAt_some
def thF:Nat→Nat→List Nat
 |0,x=>[x % 1048576,x / 1048576 % 16777216,x / 17592186044416 % 65536,x / 1152921504606846976 % 16]
 |1,x=>[x % 1048576,x / 1048576 % 1048576,x / 1099511627776 % 16777216]
 |_,x=>[x % 16777216,x / 16777216 % 1048576]
theorem thsplit_eq (k x:Nat) (hk:k<3):splitR (thW k) x=thF k x:=by
 have m4:=and_mask (x / 1152921504606846976) 4
 have m16:=and_mask (x / 17592186044416) 16
 have m20:=and_mask x 20
 have m20':=and_mask (x / 1048576) 20
 have m20'':=and_mask (x / 16777216) 20
 have m24:=and_mask x 24
 have m24':=and_mask (x / 1048576) 24
 have m24'':=and_mask (x / 1099511627776) 24
 simp only[Nat.reducePow,Nat.reduceSub] at m4 m16 m20 m20' m20'' m24 m24' m24''
 rcases k with _|_|_|k
 ·have hf:upto (fldOf (thW 0)) 4= [⟨0,1048575,by omega,by omega⟩,⟨20,16777215,by omega,by omega⟩,⟨44,65535,by omega,by omega⟩,⟨60,15,by omega,by omega⟩]:=by rfl
  unfold splitR
  rw[if_pos (by decide),show (thW 0).length=4 from rfl,hf]
  simp only[splitF,List.map_cons,List.map_nil,thF,Nat.shiftRight_eq_div_pow,Nat.reducePow,Nat.div_one,m4,m16,m20,m24']
 ·have hf:upto (fldOf (thW 1)) 3= [⟨0,1048575,by omega,by omega⟩,⟨20,1048575,by omega,by omega⟩,⟨40,16777215,by omega,by omega⟩]:=by rfl
  unfold splitR
  rw[if_pos (by decide),show (thW (0+1)).length=3 from rfl,hf]
  simp only[splitF,List.map_cons,List.map_nil,thF,Nat.shiftRight_eq_div_pow,Nat.reducePow,Nat.div_one,m20,m20',m24'']
 ·have hf:upto (fldOf (thW 2)) 2= [⟨0,16777215,by omega,by omega⟩,⟨24,1048575,by omega,by omega⟩]:=by rfl
  unfold splitR
  rw[if_pos (by decide),show (thW (0+1+1)).length=2 from rfl,hf]
  simp only[splitF,List.map_cons,List.map_nil,thF,Nat.shiftRight_eq_div_pow,Nat.reducePow,Nat.div_one,m20'',m24]
 ·omega
theorem thF_len (k x:Nat):(thF k x).length=(thW k).length:=by
 rcases k with _|_|k <;> rfl
theorem thfields_n (k n:Nat) (hk:k<3) (hn:(thW k).length=n) (w:World) :
  Calls Tryz.prog 64 #[.int .i64 (k:Int)] w fun e w'=>∃g,e=.returned (.slice (some ⟨g,0,none⟩) n n)∧Reads w' (some ⟨g,0,none⟩) (iv (thW k))∧w.heap.size≤g∧g<w'.heap.size∧Below w.heap.size w w':=by
 subst hn
 exact thfields_any k hk w
theorem thsplit_any (k x:Nat) (hk:k<3) (w:World) (A:Option Addr) (n:Nat) (hn:(thW k).length=n) (hA:Reads w A (iv (thW k))) (hx:x<18446744073709551616) :
  Calls Tryz.prog 63 #[.int .u64 x,.slice A n n] w fun e w'=>∃g d,e=.returned (.tuple #[.slice (some ⟨g,0,none⟩) n d,.int .i64 0])∧w.heap.size≤g∧g<w'.heap.size∧(∀i,i<n→w'.cell? ⟨g,i,none⟩=some (.int .u64 (((thF k x)[i]?.getD 0:Nat):Int)))∧Below w.heap.size w w':=by
 subst hn
 have hok:okW 0 (thW k)=true:=by rcases k with _|_|k <;> rfl
 have hl0:(thW k).length≤4∧0<(thW k).length:=by rcases k with _|_|k <;> simp[thW]
 have h:=split_ok x A (thW k).length (thW k) w hA (by omega) hok hx
 have hs:=thsplit_eq k x hk
 unfold splitR at hs
 rw[if_pos hok] at hs
 rw[hs] at h
 refine h.mono ?_
 rintro e w' ⟨v,rfl,hown,hb⟩
 obtain ⟨g,cap,rfl,hg,hlt⟩:=hown.form hl0.2
 refine ⟨g,cap,rfl,hg,hlt,fun i hi=>?_,hb⟩
 have hc:=hown.cellAt i (by omega)
 rwa[uv_at _ _ (by rw[thF_len];exact hi)] at hc
theorem thdeviceof_any (x:Nat) (w:World) (hx:x<18446744073709551616) :
  Calls Tryz.prog 74 #[.int .u64 (x:Int)] w fun e w'=>e=.returned (.agg #[.int .i64 ((x % 1048576:Nat):Int),.int .i64 ((x / 1048576 % 1048576:Nat):Int),.int .i64 ((x / 1099511627776 % 16777216:Nat):Int)])∧Below w.heap.size w w':=by
 obtain ⟨a,ha⟩ :∃q,x % 1048576=q:=⟨_,rfl⟩
 obtain ⟨b,hb⟩ :∃q,x / 1048576 % 1048576=q:=⟨_,rfl⟩
 obtain ⟨c,hc⟩ :∃q,x / 1099511627776 % 16777216=q:=⟨_,rfl⟩
 have HF:Hid (thF 1 x= [a,b,c]):=by show _=_;rw[←ha,←hb,←hc];rfl
 have qa:a<1048576:=by omega
 have qb:b<1048576:=by omega
 have qc:c<16777216:=by omega
 rw[ha,hb,hc]
 clear ha hb hc
 have HT:=Hi (fun w=>thfields_n 1 3 (by omega) rfl w)
 go_enter Tryz.func74,Tryz.ntmps74
 go_wp2_with fail
 refine (HT.out _).mono ?_
 rintro e w1 ⟨g1,rfl,hr1,hg1,hg1l,hb1⟩
 have HS:=Hi (thsplit_any 1 x (by omega) w1 _ 3 rfl hr1 hx)
 rw[HF.out] at HS
 clear hr1
 go_wp2_with fail
 refine HS.out.mono ?_
 rintro e w2 ⟨g,d,rfl,hg,hgl,hc,hb2⟩
 have y0:w2.cell? ⟨g,0,none⟩=some (.int .u64 (a:Int)):=hc 0 (by decide)
 have y1:w2.cell? ⟨g,1,none⟩=some (.int .u64 (b:Int)):=hc 1 (by decide)
 have y2:w2.cell? ⟨g,2,none⟩=some (.int .u64 (c:Int)):=hc 2 (by decide)
 have C0:=((Cs.new w 119 #[.int .i64 0,.int .i64 0,.int .i64 0]).below hb1 (Cs.new w _ _).lt).below hb2 (by have:=hb1.size;have:=(Cs.new w 119 #[.int .i64 0,.int .i64 0,.int .i64 0]).lt;omega)
 have x0:=C0.cell 0
 have x1:=C0.cell 1
 have x2:=C0.cell 2
 have f0:=C0.free 0
 have f1:=C0.free 1
 have f2:=C0.free 2
 have hbw:Below w.heap.size w w2:=(((Below.refl _ w).alloc (Nat.le_refl _) _).trans (hb1.mono (by simp))).trans (hb2.mono (by have:=hb1.size;simp at this;omega))
 clear hc HS
 go_wp2_with fail
 go_region
 go_wp2_with fail
 refine bodyPost_ret (v:=.agg #[.int .i64 (a:Int),.int .i64 (b:Int),.int .i64 (c:Int)]) (by simp[results,Tryz.f74,go_sem,x0,x1,x2]) rfl ⟨rfl,?_⟩
 exact ((((hbw.setCell (p:=⟨w.heap.size,0,none⟩) (Nat.le_refl _) _).setCell (p:=⟨w.heap.size,1,none⟩) (Nat.le_refl _) _).setCell (p:=⟨w.heap.size,2,none⟩) (Nat.le_refl _) _)).drew
theorem thmappingof_any (k:Int) (x:Nat) (w:World) (hx:x<18446744073709551616) :
  Calls Tryz.prog 78 #[.agg #[.int .i64 k,.int .u64 (x:Int)]] w fun e w'=>e=.returned (.agg #[.int .i64 k,.int .i64 ((x % 16777216:Nat):Int),.int .i64 ((x / 16777216 % 1048576:Nat):Int)])∧Below w.heap.size w w':=by
 obtain ⟨a,ha⟩ :∃q,x % 16777216=q:=⟨_,rfl⟩
 obtain ⟨b,hb⟩ :∃q,x / 16777216 % 1048576=q:=⟨_,rfl⟩
 have HF:Hid (thF 2 x= [a,b]):=by show _=_;rw[←ha,←hb];rfl
 have qa:a<16777216:=by omega
 have qb:b<1048576:=by omega
 rw[ha,hb]
 clear ha hb
 have HT:=Hi (fun w=>thfields_n 2 2 (by omega) rfl w)
 have B0:=Cs.new w 94 #[.int .i64 k,.int .u64 (x:Int)]
 have C0:=Cs.new (w.alloc (.cells #[.int .i64 k,.int .u64 (x:Int)] 94)) 125 #[.int .i64 0,.int .i64 0,.int .i64 0]
 have hb0:Below w.heap.size w ((w.alloc (.cells #[.int .i64 k,.int .u64 (x:Int)] 94)).alloc (.cells #[.int .i64 0,.int .i64 0,.int .i64 0] 125)):=((Below.refl _ w).alloc (Nat.le_refl _) _).alloc (by simp) _
 have B1:=B0.below ((Below.refl _ (w.alloc (.cells #[.int .i64 k,.int .u64 (x:Int)] 94))).alloc (Nat.le_refl _) (.cells #[.int .i64 0,.int .i64 0,.int .i64 0] 125)) B0.lt
 rw[show (w.alloc (.cells #[.int .i64 k,.int .u64 (x:Int)] 94)).heap.size=w.heap.size+1 by simp] at C0
 go_enter Tryz.func78,Tryz.ntmps78
 go_wp2_with fail
 generalize ((w.alloc (.cells #[.int .i64 k,.int .u64 (x:Int)] 94)).alloc (.cells #[.int .i64 0,.int .i64 0,.int .i64 0] 125))=w0 at *
 have x1:=B1.cell 1
 have x0:=B1.cell 0
 have hl0:=B1.lt
 refine wp_region_scr [(true,0),(true,1),(false,2),(false,3),(true,4),(true,5),(true,6),(true,7)] [8] 8 (by kernel_rfl) (by decide +kernel) (fun w'=>w'.cell? ⟨w.heap.size,1,none⟩=some (.int .u64 (x:Int))∧Below w0.heap.size w0 w') ⟨x1,(Below.refl _ w0).drew⟩ ?_
 simp only[pickS,pickL,List.getElem?_toArray,List.getElem?_cons_zero,List.getElem?_cons_succ]
 iterate 2
  refine ⟨?_,Or.inl ⟨by rfl,fun W' hS'=>?_⟩,fun _ _ _ h=>h,?_⟩
  rotate_left
  ·obtain ⟨y1,-⟩:=hS'
   go_simp
   with_reducible rfl
  simp only[Act.put,List.setIfInBounds_toArray,List.set_cons_zero,List.set_cons_succ]
 refine wpScr_step (fun K hK=>?_)
 go_simp
 go_at_call 64
 refine (HT.out _).mono ?_
 rintro e w1 ⟨g1,rfl,hr1,hg1,hg1l,hb1⟩
 have hb1':Below w0.heap.size w0 w1:=(Below.refl _ w0).drew.trans hb1
 refine hK _ _ ⟨(hb1'.cell (p:=⟨w.heap.size,1,none⟩) hl0).trans x1,hb1'⟩ ?_
 clear hK K
 refine wpScr_step (fun K hK=>?_)
 go_simp
 go_at_call 63
 refine (thsplit_any 2 x (by omega) w1 _ 2 rfl hr1 hx).mono ?_
 rintro e w2 ⟨g,d,rfl,hg,hgl,hc,hb2⟩
 have hb2':Below w0.heap.size w0 w2:=hb1'.trans (hb2.mono hb1'.size)
 refine hK _ _ ⟨(hb2'.cell (p:=⟨w.heap.size,1,none⟩) hl0).trans x1,hb2'⟩ ?_
 clear hK K
 rw[HF.out] at hc
 have y0:w2.cell? ⟨g,0,none⟩=some (.int .u64 (a:Int)):=hc 0 (by decide)
 have y1:w2.cell? ⟨g,1,none⟩=some (.int .u64 (b:Int)):=hc 1 (by decide)
 have C2:=C0.below hb2' C0.lt
 have z0:=(hb2'.cell (p:=⟨w.heap.size,0,none⟩) hl0).trans x0
 have q0:=C2.cell 0
 have q1:=C2.cell 1
 have q2:=C2.cell 2
 have f0:=C2.free 0
 have f1:=C2.free 1
 have f2:=C2.free 2
 have hbw:Below w.heap.size w w2:=hb0.trans (hb2'.mono hb0.size)
 clear hc
 iterate 4
  refine ⟨?_,Or.inl ⟨by rfl,fun W' hS'=>?_⟩,fun _ _ _ h=>h,?_⟩
  rotate_left
  ·go_simp
   with_reducible rfl
  simp only[Act.put,List.setIfInBounds_toArray,List.set_cons_zero,List.set_cons_succ]
 refine wpSeqL_list _ _ _ (by simp) ?_
 simp only[List.map_cons,List.map_nil]
 go_wp2_with fail
 go_region
 go_wp2_with fail
 refine bodyPost_ret (v:=.agg #[.int .i64 k,.int .i64 (a:Int),.int .i64 (b:Int)]) (by simp[results,Tryz.f78,go_sem,q0,q1,q2]) rfl ⟨rfl,?_⟩
 exact ((((hbw.setCell (p:=⟨w.heap.size+1,0,none⟩) (Nat.le_succ _) _).setCell (p:=⟨w.heap.size+1,1,none⟩) (Nat.le_succ _) _).setCell (p:=⟨w.heap.size+1,2,none⟩) (Nat.le_succ _) _)).drew
theorem thareaat_any (sq tr ti data ck ar:Nat) (sm:Nat) (w:World) (hd:data≤16384) (ha:ar≤1) :
  Calls Tryz.prog 29 #[.agg #[.int .i64 (sq:Int),.int .i64 (tr:Int),.int .i64 (ti:Int),.int .i64 (data:Int),.int .i64 (ck:Int),.int .i64 (ar:Int),.int .u64 (sm:Int)]] w fun e w'=>e=.returned (.int .i64 ((arAt data ar:Nat):Int))∧Below w.heap.size w w':=by
 have HA:=Hi (fun W=>(thareas_any data W (by omega)).mono (R':=fun e w'=>e=.returned (.int .i64 (arB data:Int))∧w'=W) (by rintro e w' ⟨rfl,rfl⟩;exact ⟨rfl,rfl⟩))
 obtain ⟨a,hab⟩ :∃q,arB data=q:=⟨_,rfl⟩
 have hal:a≤257:=by rw[←hab];unfold arB;omega
 have HE:Hid (arAt data ar=(1+ar * a) * 16):=by show _=_;unfold arAt;rw[hab];rcases (show ar=0∨ar=1 by omega) with rfl|rfl <;> omega
 rw[hab] at HA
 have e0:ar * a≤a:=by rcases (show ar=0∨ar=1 by omega) with rfl|rfl <;> omega
 have e1:IntKind.i64.wrap ((ar:Int) * (a:Int))=((ar * a:Nat):Int):=by rw[←Int.natCast_mul];exact IntWalk.i64_in _ (by omega)
 have e2:IntKind.i64.wrap (1+((ar * a:Nat):Int))=((1+ar * a:Nat):Int):=by rw[IntWalk.i64_in _ (by omega)];omega
 have e3:IntKind.i64.wrap (((1+ar * a:Nat):Int) * 16)=(((1+ar * a) * 16:Nat):Int):=by rw[IntWalk.i64_in _ (by omega)];omega
 obtain ⟨u,hu⟩ :∃q,ar * a=q:=⟨_,rfl⟩
 rw[hu] at e1 e2 e3 HE e0
 clear hab hu
 have B0:=Cs.new w 59 #[.int .i64 (sq:Int),.int .i64 (tr:Int),.int .i64 (ti:Int),.int .i64 (data:Int),.int .i64 (ck:Int),.int .i64 (ar:Int),.int .u64 (sm:Int)]
 have hb0:Below w.heap.size w (w.alloc (.cells #[.int .i64 (sq:Int),.int .i64 (tr:Int),.int .i64 (ti:Int),.int .i64 (data:Int),.int .i64 (ck:Int),.int .i64 (ar:Int),.int .u64 (sm:Int)] 59)):=(Below.refl _ w).alloc (Nat.le_refl _) _
 go_enter Tryz.func29,Tryz.ntmps29
 go_wp2_with fail
 generalize (w.alloc (.cells #[.int .i64 (sq:Int),.int .i64 (tr:Int),.int .i64 (ti:Int),.int .i64 (data:Int),.int .i64 (ck:Int),.int .i64 (ar:Int),.int .u64 (sm:Int)] 59))=w0 at *
 have x3:=B0.cell 3
 have x5:=B0.cell 5
 go_quiet ((go_at_call 30;exact Calls.quiet_of_same (HA.out _)))
 go_wp2_with fail
 go_ret
 exact ⟨ret_int (by rw[HE.out];omega),hb0.trans ⟨rfl,rfl,rfl,Nat.le_refl _,fun _ _=>rfl⟩⟩
end
end Go.Proofs.YtplhdjdkobddnaaGreat
