/- ThU FlA ThV -/
import Derived.Test.YtplhdjdkobddnaaGreatTr45
set_option linter.unusedVariables false
set_option maxRecDepth 100000
set_option maxHeartbeats 40000000
namespace Go.Proofs.YtplhdjdkobddnaaGreat
section
open Go.RowKit
attribute [local go_sem] Oper.semAt_some
theorem threadroot_no (b sq n:Nat) (l:List Nat) (hl:l.length=16) (h64:W64 l) (hs:sealedN l 1 (b:Int)≠0) (A:Option Addr) (c:Nat) (W:World) (hA:Reads W A (uv l)) :
  Calls Tryz.prog 27 #[.slice A 16 c,.int .i64 (b:Int),.int .i64 (sq:Int),.int .i64 (n:Int)] W fun e w'=>e=.returned (.tuple #[.agg #[.int .i64 0,.int .i64 0,.int .i64 0,.int .i64 0,.int .i64 0,.int .i64 0,.int .u64 0],.bool false])∧Below W.heap.size W w':=by
 have HSD:=Hi (fun w (hw:Below W.heap.size W w)=>sealed_any A c 16 l 1 (b:Int) w hl (hA.keep hw) h64 (by omega))
 obtain ⟨x,hx⟩ :∃q,sealedN l 1 (b:Int)=q:=⟨_,rfl⟩
 rw[hx] at HSD hs
 have d1:(x != 0)=true:=by simp[hs]
 clear hx hs
 go_enter Tryz.func27,Tryz.ntmps27
 go_wp2_with fail
 have C0:=Cs.new W 59 #[.int .i64 0,.int .i64 0,.int .i64 0,.int .i64 0,.int .i64 0,.int .i64 0,.int .u64 0]
 have b0:Below W.heap.size W (W.alloc (.cells #[.int .i64 0,.int .i64 0,.int .i64 0,.int .i64 0,.int .i64 0,.int .i64 0,.int .u64 0] 59)):=(Below.refl _ W).alloc (Nat.le_refl _) _
 refine (HSD.out _ b0).mono ?_
 rintro e w1 ⟨rfl,hb1⟩
 have HB1:=Hi (b0.trans (hb1.mono b0.size))
 have HC1:=Hi (C0.below hb1 C0.lt)
 clear C0 b0 hb1 HSD
 have y0:w1.cell? ⟨W.heap.size,0,none⟩=some (.int .i64 0):=HC1.out.cell 0
 have y1:w1.cell? ⟨W.heap.size,1,none⟩=some (.int .i64 0):=HC1.out.cell 1
 have y2:w1.cell? ⟨W.heap.size,2,none⟩=some (.int .i64 0):=HC1.out.cell 2
 have y3:w1.cell? ⟨W.heap.size,3,none⟩=some (.int .i64 0):=HC1.out.cell 3
 have y4:w1.cell? ⟨W.heap.size,4,none⟩=some (.int .i64 0):=HC1.out.cell 4
 have y5:w1.cell? ⟨W.heap.size,5,none⟩=some (.int .i64 0):=HC1.out.cell 5
 have y6:w1.cell? ⟨W.heap.size,6,none⟩=some (.int .u64 0):=HC1.out.cell 6
 have f0:=HC1.out.free 0
 have f1:=HC1.out.free 1
 have f2:=HC1.out.free 2
 have f3:=HC1.out.free 3
 have f4:=HC1.out.free 4
 have f5:=HC1.out.free 5
 have f6:=HC1.out.free 6
 go_wp2_with fail
 have HD7:=Hi (HC1.out.put7 (.int .i64 0) (.int .i64 0) (.int .i64 0) (.int .i64 0) (.int .i64 0) (.int .i64 0) (.int .u64 0))
 have HB7:=Hi (below_put7 HB1.out (Nat.le_refl _) (.int .i64 0) (.int .i64 0) (.int .i64 0) (.int .i64 0) (.int .i64 0) (.int .i64 0) (.int .u64 0))
 generalize (((((((w1.setCell ⟨W.heap.size,0,none⟩ (.int .i64 0)).setCell ⟨W.heap.size,1,none⟩ (.int .i64 0)).setCell ⟨W.heap.size,2,none⟩ (.int .i64 0)).setCell ⟨W.heap.size,3,none⟩ (.int .i64 0)).setCell ⟨W.heap.size,4,none⟩ (.int .i64 0)).setCell ⟨W.heap.size,5,none⟩ (.int .i64 0)).setCell ⟨W.heap.size,6,none⟩ (.int .u64 0))=X at HD7 HB7 ⊢
 have d0':X.cell? ⟨W.heap.size,0,none⟩=some (.int .i64 0):=HD7.out.cell 0
 have d1':X.cell? ⟨W.heap.size,1,none⟩=some (.int .i64 0):=HD7.out.cell 1
 have d2':X.cell? ⟨W.heap.size,2,none⟩=some (.int .i64 0):=HD7.out.cell 2
 have d3':X.cell? ⟨W.heap.size,3,none⟩=some (.int .i64 0):=HD7.out.cell 3
 have d4':X.cell? ⟨W.heap.size,4,none⟩=some (.int .i64 0):=HD7.out.cell 4
 have d5':X.cell? ⟨W.heap.size,5,none⟩=some (.int .i64 0):=HD7.out.cell 5
 have d6':X.cell? ⟨W.heap.size,6,none⟩=some (.int .u64 0):=HD7.out.cell 6
 exact bodyPost_ret (v:=.tuple #[.agg #[.int .i64 0,.int .i64 0,.int .i64 0,.int .i64 0,.int .i64 0,.int .i64 0,.int .u64 0],.bool false]) (by simp[results,Tryz.f27,go_sem,d0',d1',d2',d3',d4',d5',d6']) rfl ⟨rfl,HB7.out⟩
def OneV (W w':World) (e:Ending):Prop:=∃A c vs,e=.returned (.slice A 1 c)∧w'.ownsRow W.heap.size 52 4 (.slice A 1 c) 1 vs∧Below W.heap.size W w'
theorem thcheck_few (W:World) (B:Option Addr) (n c:Nat) (hn:n<16) :
  Calls Tryz.prog 8 #[.slice B n c] W fun e w'=>OneV W w' e:=by
 obtain ⟨s,hs⟩ :∃q,W.heap.size=q:=⟨_,rfl⟩
 obtain ⟨A1,hA1⟩ :∃q,W.alloc (.map #[] 0)=q:=⟨_,rfl⟩
 obtain ⟨A2,hA2⟩ :∃q,A1.alloc (.map #[] 0)=q:=⟨_,rfl⟩
 obtain ⟨A3,hA3⟩ :∃q,A2.alloc (.cells #[.slice B n c,.int .i64 0,.int .i64 0,.int .i64 0,.int .i64 0,.int .i64 0,.int .i64 0,.int .i64 0,.int .u64 0,.map (some s),.map (some (s+1)),.bool false,.slice none 0 0,.slice none 0 0] 61)=q:=⟨_,rfl⟩
 have s1:A1.heap.size=s+1:=by rw[←hA1,←hs];simp
 have s2:A2.heap.size=s+1+1:=by rw[←hA2,←s1];simp
 have s3:A3.heap.size=s+1+1+1:=by rw[←hA3,←s2];simp
 have b1:Below W.heap.size W A1:=by rw[←hA1];exact (Below.refl _ W).alloc (Nat.le_refl _) _
 have b2:Below A1.heap.size A1 A2:=by rw[←hA2];exact (Below.refl _ A1).alloc (Nat.le_refl _) _
 have b3:Below A2.heap.size A2 A3:=by rw[←hA3];exact (Below.refl _ A2).alloc (Nat.le_refl _) _
 have b13:=b1.trans ((b2.trans (b3.mono b2.size)).mono b1.size)
 have c3:=Cs.new A2 61 #[.slice B n c,.int .i64 0,.int .i64 0,.int .i64 0,.int .i64 0,.int .i64 0,.int .i64 0,.int .i64 0,.int .u64 0,.map (some s),.map (some (s+1)),.bool false,.slice none 0 0,.slice none 0 0]
 rw[hA3,s2] at c3
 have hmm:=@run_makeMap Tryz.prog
 have d16:(n:Int)<16:=by omega
 have HAD:=Hi (ckadd_raw A3 (s+1+1) _ (.slice none 0 0) c3 rfl (s+1+1+1) (by omega) (by omega) 0 [] (World.ownsRow_nil _ _ _ _) (by omega) 1 (by omega) 0 0)
 have HSS:=Hi hs
 have HB3:=Hi b13
 clear b1 b2 b3 b13 c3 s3
 go_enter Tryz.func8,Tryz.ntmps8
 go_upto_region 3 with (fail)
 clear hA1 hA2 hA3 s1 s2 hs
 go_wp2_with fail
 refine HAD.out.mono ?_
 rintro e w7 ⟨rfl,v,q1,q2,q3,q4⟩
 obtain ⟨A,cv,hv⟩:=own_form q2
 subst hv
 have z13:w7.cell? ⟨s+1+1,13,none⟩=some (.slice A 1 cv):=q1.cell 13
 have hfr:Fr (fun j=>j=s+1+1) A3 w7:=q3.mono (fun j _ e=>e.elim id (fun q=>by cases q))
 have HFIN:Hid (OneV W w7 (.returned (.slice A 1 cv))):=by
  have hs:=HSS.out
  refine ⟨A,cv,_,rfl,own_lower q2 (by omega),HB3.out.trans (hfr.below HB3.out.size (fun j hj=>by have:j=s+1+1:=hj;omega))⟩
 clear q1 q2 q3 q4 hfr HAD
 go_wp2_with fail
 go_ret
 exact HFIN.out
theorem thcheck_commit (W:World) (g n c:Nat) (ws:List Nat)
  (hr:W.ownsRow 0 39 1 (.slice (some ⟨g,0,none⟩) n c) n (uv ws)) (hn:ws.length=n) (h64:W64 ws) (h16:16≤n) (hw:cwOk (ws[0]?.getD 0)=false) :
  Calls Tryz.prog 8 #[.slice (some ⟨g,0,none⟩) n c] W fun e w'=>OneV W w' e:=by
 obtain ⟨cw,hcw⟩ :∃q,ws[0]?.getD 0=q:=⟨_,rfl⟩
 have hc64:cw<18446744073709551616:=by
  rw[←hcw,List.getElem?_eq_getElem (by omega)]
  exact h64 _ (List.getElem_mem _)
 rw[hcw] at hw
 have hCM:=Hi (fun w=>thcommit_any cw w hc64)
 rw[hw] at hCM
 obtain ⟨r0,hr0⟩ :∃q,cw % 1048576=q:=⟨_,rfl⟩
 obtain ⟨q0,hq0⟩ :∃q,cw / 1048576 % 16777216=q:=⟨_,rfl⟩
 rw[hr0,hq0] at hCM
 obtain ⟨s,hs⟩ :∃q,W.heap.size=q:=⟨_,rfl⟩
 obtain ⟨A1,hA1⟩ :∃q,W.alloc (.map #[] 0)=q:=⟨_,rfl⟩
 obtain ⟨A2,hA2⟩ :∃q,A1.alloc (.map #[] 0)=q:=⟨_,rfl⟩
 obtain ⟨A3,hA3⟩ :∃q,A2.alloc (.cells #[.slice (some ⟨g,0,none⟩) n c,.int .i64 0,.int .i64 0,.int .i64 0,.int .i64 0,.int .i64 0,.int .i64 0,.int .i64 0,.int .u64 0,.map (some s),.map (some (s+1)),.bool false,.slice none 0 0,.slice none 0 0] 61)=q:=⟨_,rfl⟩
 have s1:A1.heap.size=s+1:=by rw[←hA1,←hs];simp
 have s2:A2.heap.size=s+1+1:=by rw[←hA2,←s1];simp
 have s3:A3.heap.size=s+1+1+1:=by rw[←hA3,←s2];simp
 have b1:Below W.heap.size W A1:=by rw[←hA1];exact (Below.refl _ W).alloc (Nat.le_refl _) _
 have b2:Below A1.heap.size A1 A2:=by rw[←hA2];exact (Below.refl _ A1).alloc (Nat.le_refl _) _
 have b3:Below A2.heap.size A2 A3:=by rw[←hA3];exact (Below.refl _ A2).alloc (Nat.le_refl _) _
 have b13:=b1.trans ((b2.trans (b3.mono b2.size)).mono b1.size)
 have c3:=Cs.new A2 61 #[.slice (some ⟨g,0,none⟩) n c,.int .i64 0,.int .i64 0,.int .i64 0,.int .i64 0,.int .i64 0,.int .i64 0,.int .i64 0,.int .u64 0,.map (some s),.map (some (s+1)),.bool false,.slice none 0 0,.slice none 0 0]
 rw[hA3,s2] at c3
 have hmm:=@run_makeMap Tryz.prog
 have d16:¬(n:Int)<16:=by omega
 have x0:A3.cell? ⟨g,0,none⟩=some (.int .u64 (cw:Int)):=by
  have:=(own_keepU' hr b13).cellAt 0 (by omega)
  rw[uv_at ws 0 (by omega),hcw] at this
  exact this
 have HAD:=Hi (fun w (hc:Cs w (s+1+1) 61 _) (hw:s+1+1+1≤w.heap.size)=>ckadd_raw w (s+1+1) #[.slice (some ⟨g,0,none⟩) n c,.int .i64 0,.int .i64 0,.int .i64 0,.int .i64 0,.int .i64 0,.int .i64 0,.int .i64 0,.int .u64 0,.map (some s),.map (some (s+1)),.bool false,.slice none 0 0,.slice none 0 0] (.slice none 0 0) hc rfl (s+1+1+1) (by omega) hw 0 [] (World.ownsRow_nil _ _ _ _) (by omega) 1 (by omega) 0 0)
 have HSS:=Hi hs
 have HB3:=Hi b13
 have HC3:=Hi c3
 have HZ3:Hid (A3.heap.size=s+1+1+1):=s3
 clear b1 b2 b3 b13 c3 s3 hr hcw hw hr0 hq0 hn h64
 go_enter Tryz.func8,Tryz.ntmps8
 go_upto_region 5 with (fail)
 clear hA1 hA2 hA3 s1 s2 hs
 go_wp2_with fail
 refine (hCM.out _).mono ?_
 rintro e w1 ⟨rfl,hb1⟩
 have HA1:=Hi (HAD.out w1 (HC3.out.below hb1 HC3.out.lt) (by have:=hb1.size;have:=HZ3.out;omega))
 have HB1:=Hi (HB3.out.trans (hb1.mono HB3.out.size))
 clear hb1 HAD x0 hmm
 go_wp2_with fail
 refine HA1.out.mono ?_
 rintro e w7 ⟨rfl,v,q1,q2,q3,q4⟩
 obtain ⟨A,cv,hv⟩:=own_form q2
 subst hv
 have z13:w7.cell? ⟨s+1+1,13,none⟩=some (.slice A 1 cv):=q1.cell 13
 have hfr:Fr (fun j=>j=s+1+1) w1 w7:=q3.mono (fun j _ e=>e.elim id (fun q=>by cases q))
 have HFIN:Hid (OneV W w7 (.returned (.slice A 1 cv))):=by
  have hs:=HSS.out
  refine ⟨A,cv,_,rfl,own_lower q2 (by omega),HB1.out.trans (hfr.below HB1.out.size (fun j hj=>by have:j=s+1+1:=hj;omega))⟩
 clear q1 q2 q3 q4 hfr HA1
 go_wp2_with fail
 go_ret
 exact HFIN.out
theorem thcheck_root (W:World) (g n c root seq:Nat) (ws:List Nat)
  (hr:W.ownsRow 0 39 1 (.slice (some ⟨g,0,none⟩) n c) n (uv ws)) (hn:ws.length=n) (hcap:n≤c) (h64:W64 ws) (hn5:n≤100000) (w0:ws[0]?.getD 0=cwW root seq) (hrt:root<1048576) (hsq:seq<16777216) (hb:root<blN n) (hsl:sealedN (blkW ws root) 1 (root:Int)≠0) :
  Calls Tryz.prog 8 #[.slice (some ⟨g,0,none⟩) n c] W fun e w'=>OneV W w' e:=by
 have hgl:g<W.heap.size:=own_lt hr _ rfl
 have hb16:(root+1) * 16≤n:=by unfold blN at hb;omega
 have hbl4:blN n≤4096:=by unfold blN;omega
 have hRD:=Hi (threadroot_no root seq n (blkW ws root) (blk_len (by rw[hn];exact hb16)) (blk_w h64 root) hsl (some ⟨g,root * 16,none⟩) (c - root * 16))
 have hCM:=Hi (fun w=>thcommit_any (cwW root seq) w (cwW_lt _ _))
 obtain ⟨f1,f2⟩:=cw_fields root seq hrt hsq
 have f3:=cwOk_W root seq hrt hsq
 rw[f1,f2,f3] at hCM
 obtain ⟨s,hs⟩ :∃q,W.heap.size=q:=⟨_,rfl⟩
 obtain ⟨A1,hA1⟩ :∃q,W.alloc (.map #[] 0)=q:=⟨_,rfl⟩
 obtain ⟨A2,hA2⟩ :∃q,A1.alloc (.map #[] 0)=q:=⟨_,rfl⟩
 obtain ⟨A3,hA3⟩ :∃q,A2.alloc (.cells #[.slice (some ⟨g,0,none⟩) n c,.int .i64 0,.int .i64 0,.int .i64 0,.int .i64 0,.int .i64 0,.int .i64 0,.int .i64 0,.int .u64 0,.map (some s),.map (some (s+1)),.bool false,.slice none 0 0,.slice none 0 0] 61)=q:=⟨_,rfl⟩
 have s1:A1.heap.size=s+1:=by rw[←hA1,←hs];simp
 have s2:A2.heap.size=s+1+1:=by rw[←hA2,←s1];simp
 have b1:Below W.heap.size W A1:=by rw[←hA1];exact (Below.refl _ W).alloc (Nat.le_refl _) _
 have b2:Below A1.heap.size A1 A2:=by rw[←hA2];exact (Below.refl _ A1).alloc (Nat.le_refl _) _
 have b3:Below A2.heap.size A2 A3:=by rw[←hA3];exact (Below.refl _ A2).alloc (Nat.le_refl _) _
 have b13:=b1.trans ((b2.trans (b3.mono b2.size)).mono b1.size)
 have c3:Cs A3 (s+1+1) 61 (CK.new g n c s (s+1)).cells:=by
  have:=Cs.new A2 61 #[.slice (some ⟨g,0,none⟩) n c,.int .i64 0,.int .i64 0,.int .i64 0,.int .i64 0,.int .i64 0,.int .i64 0,.int .i64 0,.int .u64 0,.map (some s),.map (some (s+1)),.bool false,.slice none 0 0,.slice none 0 0]
  rw[hA3,s2] at this
  exact this
 rw[hs] at hgl
 have K3:CkIn A3 (s+1+1) (CK.new g n c s (s+1)) ws:=⟨c3,own_keepU' hr b13,hn,h64,hn5,by show g≠s+1+1;omega⟩
 have HB3:=Hi b13
 have HK3:=Hi K3
 have x0:A3.cell? ⟨g,0,none⟩=some (.int .u64 ((cwW root seq:Nat):Int)):=by
  have:=K3.wr.cellAt 0 (by show 0<n * 1;omega)
  rw[uv_at ws 0 (by omega),w0] at this
  exact this
 obtain ⟨cw,hcw⟩ :∃q,cwW root seq=q:=⟨_,rfl⟩
 rw[hcw] at hCM x0
 have hmm:=@run_makeMap Tryz.prog
 have d16:¬(n:Int)<16:=by omega
 have HW64:=Hi h64
 have HN:=Hi hn
 clear c3 K3 b1 b2 b3 b13 w0 hcw f1 f2 f3 h64 hr hn hsl
 go_enter Tryz.func8,Tryz.ntmps8
 go_upto_region 5 with (fail)
 clear hA1 hA2 hA3 s1 s2
 have hC3:s+1+1<A3.heap.size:=HK3.out.cs.lt
 go_wp2_with fail
 refine (hCM.out _).mono ?_
 rintro e w1 ⟨rfl,hb1⟩
 have K1:=HK3.out.keep hb1
 have HZ1:Hid (A3.heap.size≤w1.heap.size):=hb1.size
 have HB1:=Hi (HB3.out.trans (hb1.mono HB3.out.size))
 have g1:w1.frozen? ⟨s+1+1,1,none⟩=false:=K1.cs.free 1
 have y1:w1.cell? ⟨s+1+1,1,none⟩=some (.int .i64 0):=K1.cs.cell 1
 have K2:=K1.bk root
 obtain ⟨w2,hw2⟩ :∃q,w1.setCell ⟨s+1+1,1,none⟩ (.int .i64 (root:Int))=q:=⟨_,rfl⟩
 rw[hw2] at K2
 have F2:Hid (Fr (fun j=>j=s+1+1) w1 w2):=by rw[←hw2];exact fr_set _ _ _ _
 have HAT:=Hi (ckat_any w2 (s+1+1) _ K2.cs root hb16 hcap (by show n≤1000000;omega))
 have hrd:Reads w2 (some ⟨g,root * 16,none⟩) (uv (blkW ws root)):=blk_reads (by rw[HN.out];exact K2.wr) (by rw[HN.out];exact hb16)
 have HRR:=Hi (hRD.out w2 hrd)
 have HK2:=Hi K2
 obtain ⟨B,hB⟩ :∃q,blN n=q:=⟨_,rfl⟩
 have hBL2:=ckblocks_any w2 (s+1+1) _ K2.cs (by show n≤1000000;omega)
 have hBL3:Calls Tryz.prog 26 #[.pointer (some ⟨s+1+1,0,none⟩)] w2 fun e w'=>e=.returned (.int .i64 ((B:Nat):Int))∧w2=w':=by
  rw[←hB];exact hBL2
 have HBL3:=Hi hBL3
 have dB:(root:Int)<(B:Int):=by rw[←hB];omega
 clear hBL2 hBL3 hB hrd K2 K1 x0 hb1 hRD hCM
 go_wp2_with fail
 refine HBL3.out.mono ?_
 rintro e w' ⟨rfl,rfl⟩
 clear HBL3 hw2 y1 g1
 go_wp2_with fail
 refine HAT.out.mono ?_
 rintro e w' ⟨rfl,rfl⟩
 clear HAT
 go_wp2_with fail
 refine HRR.out.mono ?_
 rintro e w3 ⟨rfl,hb3⟩
 have K3:=HK2.out.keep hb3
 have y2:w3.cell? ⟨s+1+1,2,none⟩=some (.int .i64 0):=K3.cs.cell 2
 have y3:w3.cell? ⟨s+1+1,3,none⟩=some (.int .i64 0):=K3.cs.cell 3
 have y4:w3.cell? ⟨s+1+1,4,none⟩=some (.int .i64 0):=K3.cs.cell 4
 have y5:w3.cell? ⟨s+1+1,5,none⟩=some (.int .i64 0):=K3.cs.cell 5
 have y6:w3.cell? ⟨s+1+1,6,none⟩=some (.int .i64 0):=K3.cs.cell 6
 have y7:w3.cell? ⟨s+1+1,7,none⟩=some (.int .i64 0):=K3.cs.cell 7
 have y8:w3.cell? ⟨s+1+1,8,none⟩=some (.int .u64 0):=K3.cs.cell 8
 have g2:=K3.cs.free 2
 have g3:=K3.cs.free 3
 have g4:=K3.cs.free 4
 have g5:=K3.cs.free 5
 have g6:=K3.cs.free 6
 have g7:=K3.cs.free 7
 have g8:=K3.cs.free 8
 have K4:=K3.root 0 0 0 0 0 0 0
 have F4:=putR_fr w3 (s+1+1) 0 0 0 0 0 0 0
 obtain ⟨w4,hw4⟩ :∃q,putR w3 (s+1+1) 0 0 0 0 0 0 0=q:=⟨_,rfl⟩
 rw[hw4] at K4 F4
 have hw5:((((((w3.setCell ⟨s+1+1,2,none⟩ (.int .i64 0)).setCell ⟨s+1+1,3,none⟩ (.int .i64 0)).setCell ⟨s+1+1,4,none⟩ (.int .i64 0)).setCell ⟨s+1+1,5,none⟩ (.int .i64 0)).setCell ⟨s+1+1,6,none⟩ (.int .i64 0)).setCell ⟨s+1+1,7,none⟩ (.int .i64 0)).setCell ⟨s+1+1,8,none⟩ (.int .u64 0)=w4:=hw4
 have HF4:Hid (Fr (fun j=>j=s+1+1) w1 w4):=(F2.out.trans (Fr.of_below hb3)).trans F4
 have hz4:s+1+1+1≤w4.heap.size:=K4.cs.lt
 have HAD:=Hi (ckadd_any w4 (s+1+1) _ K4.cs (s+1+1+1) (by omega) hz4 0 [] (World.ownsRow_nil _ _ _ _) (by omega) 2 (by omega) (root:Int) 0)
 have HSS:=Hi hs
 clear K4 F4 K3 hb3 hw4 hs hmm
 go_wp2_with fail
 refine HAD.out.mono ?_
 rintro e w7 ⟨rfl,v,q1,q2,q3,q4⟩
 obtain ⟨A,cv,hv⟩:=own_form q2
 subst hv
 have z13:w7.cell? ⟨s+1+1,13,none⟩=some (.slice A 1 cv):=q1.cell 13
 have hfr:Fr (fun j=>j=s+1+1) w4 w7:=q3.mono (fun j _ e=>e.elim id (fun q=>by cases q))
 have HFIN:Hid (OneV W w7 (.returned (.slice A 1 cv))):=by
  have hs:=HSS.out
  refine ⟨A,cv,_,rfl,own_lower q2 (by omega),HB1.out.trans ((HF4.out.trans hfr).below HB1.out.size (fun j hj=>by have:j=s+1+1:=hj;omega))⟩
 clear q1 q2 q3 q4 hfr HAD hw5 y2 y3 y4 y5 y6 y7 y8 g2 g3 g4 g5 g6 g7 g8
 go_wp2_with fail
 go_ret
 exact HFIN.out
end
section
open Go.RowKit
theorem byteC_xor (a b i:Nat):byteC (a ^^^ b) i=byteC a i ^^^ byteC b i:=by
 unfold byteC
 rw[Nat.shiftRight_xor_distrib,show (256:Nat)=2 ^ 8 from rfl,Nat.xor_mod_two_pow]
theorem xor4 (a b c d:Nat):(a ^^^ b) ^^^ (c ^^^ d)=(a ^^^ c) ^^^ (b ^^^ d):=by
 rw[Nat.xor_assoc,Nat.xor_assoc,←Nat.xor_assoc b,Nat.xor_comm b c,Nat.xor_assoc c]
theorem feedC_xor (x y a b:Nat):feedC (x ^^^ y) (a ^^^ b)=feedC x a ^^^ feedC y b:=by
 unfold feedC step8
 rw[xor4,stepN_xor]
theorem wordC_xor (x y a b:Nat):∀k,wordC (x ^^^ y) (a ^^^ b) k=wordC x a k ^^^ wordC y b k
 |0=>rfl
 |k+1=>by
  show feedC _ _=feedC _ _ ^^^ feedC _ _
  rw[wordC_xor x y a b k,byteC_xor,feedC_xor]
def zerosC (x:Nat):Nat→Nat
 |0=>x
 |n+1=>zerosC (wordC x 0 8) n
theorem wordsC_cons (x w:Nat) (l:List Nat):wordsC x (w :: l)=wordsC (wordC x w 8) l:=rfl
theorem wordsC_xor (y:Nat):∀(l:List Nat) (x:Nat),wordsC (x ^^^ y) l=wordsC x l ^^^ zerosC y l.length
 | [],_=>rfl
 |w :: l,x=>by
  rw[wordsC_cons,wordsC_cons]
  have:=wordC_xor x y w 0 8
  rw[Nat.xor_zero] at this
  rw[this,wordsC_xor _ l]
  rfl
theorem wordsC_flip (d:Nat):∀(l:List Nat) (i:Nat) (x:Nat),i<l.length→wordsC x (l.set i ((l[i]?.getD 0) ^^^ d))=wordsC x l ^^^ zerosC (wordC 0 d 8) (l.length - 1 - i)
 | [],i,x,h=>by simp at h
 |w :: l,0,x,_=>by
  show wordsC x ((w ^^^ d) :: l)=wordsC x (w :: l) ^^^ zerosC (wordC 0 d 8) (l.length+1 - 1 - 0)
  rw[wordsC_cons,wordsC_cons]
  have:=wordC_xor x 0 w d 8
  rw[Nat.xor_zero] at this
  rw[this,wordsC_xor _ l]
  rfl
 |w :: l,i+1,x,h=>by
  show wordsC x (w :: l.set i ((l[i]?.getD 0) ^^^ d))=wordsC x (w :: l) ^^^ zerosC (wordC 0 d 8) (l.length+1 - 1 - (i+1))
  rw[wordsC_cons,wordsC_cons,wordsC_flip d l i _ (by simpa using h)]
  congr 2
  omega
theorem sub_xor (x:Nat) (h:x<4294967296):4294967295 - x=x ^^^ 4294967295:=by
 apply Nat.eq_of_testBit_eq
 intro j
 have h1:=Nat.testBit_two_pow_sub_succ (n:=32) (x:=x) h j
 rw[show 2 ^ 32 - (x+1)=4294967295 - x by omega] at h1
 rw[h1,Nat.testBit_xor,show (4294967295:Nat)=2 ^ 32 - 1 from rfl,Nat.testBit_two_pow_sub_one]
 by_cases hj:j<32
 ·simp[hj]
 ·have h2:x.testBit j=false:=Nat.testBit_lt_two_pow (Nat.lt_of_lt_of_le h (by
   have:=Nat.pow_le_pow_right (n:=2) (by omega) (show 32≤j by omega)
   simpa using this))
  simp[hj,h2]
theorem shortC_xor (a b:Nat):shortC (a ^^^ b)=shortC a ^^^ shortC b:=by
 unfold shortC
 rw[Nat.shiftRight_xor_distrib,show (65536:Nat)=2 ^ 16 from rfl,Nat.xor_mod_two_pow,Nat.xor_mod_two_pow,xor4]
theorem wordC0_lt (d:Nat):wordC 0 d 8<4294967296:=wordC_lt _ _ _ (by omega)
theorem zerosC_lt:∀(n x:Nat),x<4294967296→zerosC x n<4294967296
 |0,_,h=>h
 |n+1,x,h=>zerosC_lt n _ (wordC_lt _ _ _ h)
theorem short_flip (l:List Nat) (i d:Nat) (hi:i<l.length):shortC (extendC 0 (l.set i ((l[i]?.getD 0) ^^^ d)))=shortC (extendC 0 l) ^^^ shortC (zerosC (wordC 0 d 8) (l.length - 1 - i)):=by
 unfold extendC
 rw[wordsC_flip d l i _ hi]
 have h1:=wordsC_lt (4294967295 - 0) l (by omega)
 have h2:=zerosC_lt (l.length - 1 - i) _ (wordC0_lt d)
 rw[sub_xor _ h1,sub_xor _ (Nat.xor_lt_two_pow (n:=32) h1 h2),←shortC_xor]
 congr 1
 rw[Nat.xor_assoc,Nat.xor_comm (zerosC _ _),←Nat.xor_assoc]
def flipT:Nat→Nat→Bool
 |0,_=>true
 |n+1,x=>decide (shortC x≠0) && flipT n (wordC x 0 8)
def flipAll:Nat→Bool
 |0=>true
 |k+1=>flipT 32 (wordC 0 (2 ^ k) 8) && flipAll k
theorem flip_all:flipAll 64=true:=by decide +kernel
theorem flipT_at:∀(n x m:Nat),flipT n x=true→m<n→shortC (zerosC x m)≠0
 |0,_,m,_,hm=>by omega
 |n+1,x,0,h,_=>by
  rw[flipT,Bool.and_eq_true,decide_eq_true_eq] at h
  exact h.1
 |n+1,x,m+1,h,hm=>by
  rw[flipT,Bool.and_eq_true] at h
  exact flipT_at n _ m h.2 (by omega)
theorem flipAll_at:∀(k j:Nat),flipAll k=true→j<k→flipT 32 (wordC 0 (2 ^ j) 8)=true
 |0,_,_,h=>by omega
 |k+1,j,h,hj=>by
  rw[flipAll,Bool.and_eq_true] at h
  by_cases e:j=k
  ·rw[e];exact h.1
  ·exact flipAll_at k j h.2 (by omega)
theorem xor_ne (a b:Nat) (h:b≠0):a ^^^ b≠a:=fun e=>h (by
 have:a ^^^ (a ^^^ b)=a ^^^ a:=by rw[e]
 rwa[←Nat.xor_assoc,Nat.xor_self,Nat.zero_xor] at this)
theorem short_bit (l:List Nat) (i k:Nat) (hi:i<l.length) (hl:l.length≤32) (hk:k<64):shortC (extendC 0 (l.set i ((l[i]?.getD 0) ^^^ 2 ^ k)))≠shortC (extendC 0 l):=by
 rw[short_flip l i _ hi]
 exact xor_ne _ _ (flipT_at 32 _ _ (flipAll_at 64 k flip_all hk) (by omega))
end
section
open Go.RowKit
theorem dkW_ext {ws ws':List Nat} {u:Nat} (hl:ws'.length=ws.length) (hb:blkW ws' u=blkW ws u):dkW ws' u=dkW ws u:=by
 unfold dkW
 rw[hl,hb]
section
variable {m:Mt} {N:Nat} {G:Gh} {ws:List Nat}
theorem ndW_of (hx:MtX m m.dv N N 6 G) (hc:Cmd m) (hl:ws.length=m.ws.length) (hb:∀u,2 * arB m.data+1≤u→u≠m.root→blkW ws u=blkW m.ws u):NdW m ws:=by
 refine ⟨hl,fun u n hn=>?_⟩
 obtain ⟨-,h2,h3⟩:=nd_count hn
 obtain ⟨h4,h5⟩:=zM_no h2
 rw[dkW_ext hl (hb u h4 h5)]
 unfold St.load at h3
 rw[hc.ch u,hx.dk] at h3
 exact h3
structure Lke (m:Mt) (ws:List Nat) (sm:Nat):Prop where
 nd:NdW m ws
 w64:W64 ws
 w0:ws[0]?.getD 0=cwW m.root m.seq
 rb:blkW ws m.root=rtW m.root m.seq m.tree m.time m.data m.chunk m.area sm
 sm:sm<18446744073709551616
theorem sum_lt (l:List Nat):shortC (extendC 0 l)<18446744073709551616:=by have:=shortC_lt (extendC 0 l);omega
theorem lke_self (hx:MtX m m.dv N N 6 G) (hc:Cmd m):Lke m m.ws (shortC (extendC 0 (arW m.S.da.now))):=
 ⟨ndW_of hx hc rfl (fun _ _ _=>rfl),hx.w6,hc.w0,hc.rb,sum_lt _⟩
theorem da_small (hx:MtX m m.dv N N 6 G) (hc:Cmd m):∀x∈m.S.da.now,x≤40000:=fun x hin=>by
 obtain ⟨d,hd,rfl⟩:=List.mem_iff_getElem.1 hin
 have h1:=hx.inv.dsmall d
 have h2:=hx.len4
 rw[hc.pe] at h1
 have h3:m.S.da.count d=m.S.da.now[d]:=by
  unfold Mp.count
  rw[List.getElem?_eq_getElem hd]
  rfl
 rw[h3] at h1
 simp only[List.length_nil] at h1
 omega
theorem ct_self (hx:MtX m m.dv N N 6 G) (hc:Cmd m) {d:Nat} (hd:d<m.data):ctAt (arW m.S.da.now) d=m.S.da.count d:=
 ctAt_arW _ (fun x hin=>by have:=da_small hx hc x hin;omega) (by rw[hx.dn];exact hd)
theorem ctAt_flip (A:List Nat) (j k d:Nat) (hj:j<A.length) (hk:k<64):ctAt (A.set j ((A[j]?.getD 0) ^^^ 2 ^ k)) d=ctAt A d↔¬d=4 * j+k / 16:=by
 unfold ctAt
 by_cases h1:d / 4=j
 ·rw[h1,List.getElem?_set_self hj]
  show ((A[j]?.getD 0) ^^^ 2 ^ k) >>> (16 * (d % 4)) % 65536=(A[j]?.getD 0) >>> (16 * (d % 4)) % 65536↔_
  generalize A[j]?.getD 0=x
  have ht:d % 4<4:=Nat.mod_lt _ (by omega)
  obtain ⟨t,htt⟩ :∃q,d % 4=q:=⟨_,rfl⟩
  rw[htt] at ht ⊢
  rw[Nat.shiftRight_xor_distrib,show (65536:Nat)=2 ^ 16 from rfl,Nat.xor_mod_two_pow]
  by_cases h2:k / 16=t
  ·have h3:(2 ^ k >>> (16 * t)) % 2 ^ 16=2 ^ (k - 16 * t):=by
    rw[Nat.shiftRight_eq_div_pow,Nat.pow_div (by omega) (by omega)]
    exact Nat.mod_eq_of_lt (Nat.pow_lt_pow_right (by omega) (by omega))
   rw[h3]
   have h4:(0:Nat)<2 ^ (k - 16 * t):=Nat.two_pow_pos _
   exact iff_of_false (xor_ne _ _ (by omega)) (by omega)
  ·have h3:(2 ^ k >>> (16 * t)) % 2 ^ 16=0:=by
    rw[Nat.shiftRight_eq_div_pow]
    by_cases h5:k<16 * t
    ·rw[Nat.div_eq_of_lt (Nat.pow_lt_pow_right (by omega) h5)]
    ·rw[Nat.pow_div (by omega) (by omega)]
     exact Nat.mod_eq_zero_of_dvd (Nat.pow_dvd_pow 2 (by omega))
   rw[h3,Nat.xor_zero]
   exact iff_of_true rfl (by omega)
 ·rw[List.getElem?_set_ne (fun q=>h1 q.symm)]
  exact iff_of_true rfl (by omega)
theorem arOf_set (ws:List Nat) (data area j v:Nat) (hj:j<arB data * 16) (h:arAt data area+arB data * 16≤ws.length):arOf (ws.set (arAt data area+j) v) data area=(arOf ws data area).set j v:=by
 unfold arOf
 apply List.ext_getElem?
 intro i
 rw[List.getElem?_take,List.getElem?_drop,List.getElem?_set,List.getElem?_set,List.getElem?_take,List.getElem?_drop]
 have hl:((ws.drop (arAt data area)).take (arB data * 16)).length=arB data * 16:=by simp;omega
 rw[hl]
 by_cases h1:i<arB data * 16
 ·rw[if_pos h1,if_pos h1]
  by_cases h2:j=i
  ·subst h2
   rw[if_pos rfl,if_pos rfl,if_pos (by omega),if_pos h1]
  ·rw[if_neg (by omega),if_neg h2]
 ·rw[if_neg h1,if_neg h1,if_neg (by omega)]
theorem blk_set (ws:List Nat) (i v u:Nat) (h:i<u * 16∨u * 16+16≤i):blkW (ws.set i v) u=blkW ws u:=
 blk_ext (fun j hj=>by rw[List.getElem?_set_ne (by omega)])
theorem ar_at {data area j:Nat} (ha:area≤1) (hj:j<arB data * 16):16≤arAt data area+j∧arAt data area+j<(2 * arB data+1) * 16:=by
 unfold arAt
 rcases (show area=0∨area=1 by omega) with e|e <;> rw[e] <;> omega
theorem ar_fit (hx:MtX m m.dv N N 6 G):arAt m.data m.area+arB m.data * 16≤m.ws.length:=by
 have h1:=hx.ar
 have h2:=hx.sz
 unfold arAt
 rcases (show m.area=0∨m.area=1 by omega) with e|e <;> rw[e] <;> omega
theorem lke_flip (hx:MtX m m.dv N N 6 G) (hc:Cmd m) (hd:m.data≤128) {i j k:Nat} (hi:i=arAt m.data m.area+j) (hj:j<arB m.data * 16) (hk:k<64) :
  Lke m (m.ws.set i ((m.ws[i]?.getD 0) ^^^ 2 ^ k)) (shortC (extendC 0 (arW m.S.da.now)))∧(shortC (extendC 0 (arOf (m.ws.set i ((m.ws[i]?.getD 0) ^^^ 2 ^ k)) m.data m.area))=shortC (extendC 0 (arW m.S.da.now))↔true=false)∧
   (∀d,d<m.data→(ctAt (arOf (m.ws.set i ((m.ws[i]?.getD 0) ^^^ 2 ^ k)) m.data m.area) d=m.S.da.count d↔¬(decide (4 * j+k / 16<m.data)=true∧d=4 * j+k / 16))):=by
 have h1:=ar_at hx.ar hj
 have h2:=hx.rl
 have hfit:=ar_fit hx
 have hal:(arOf m.ws m.data m.area).length=arB m.data * 16:=arOf_len hfit
 have hw:m.ws[i]?.getD 0=(arOf m.ws m.data m.area)[j]?.getD 0:=by
  unfold arOf
  rw[List.getElem?_take,if_pos hj,List.getElem?_drop,hi]
 have har:arOf (m.ws.set i ((m.ws[i]?.getD 0) ^^^ 2 ^ k)) m.data m.area=(arW m.S.da.now).set j (((arW m.S.da.now)[j]?.getD 0) ^^^ 2 ^ k):=by
  rw[hw,hi,arOf_set _ _ _ _ _ hj hfit,hc.ar]
 have hwl:(arW m.S.da.now).length=arB m.data * 16:=by rw[←hc.ar];exact hal
 rw[har]
 have ha2:arB m.data≤2:=by unfold arB;omega
 refine ⟨⟨ndW_of hx hc (by rw[List.length_set]) (fun u hu _=>blk_set _ _ _ _ (by omega)),?_,?_,?_,sum_lt _⟩,?_,?_⟩
 ·refine W64.set hx.w6 _ _ ?_
  refine Nat.xor_lt_two_pow (n:=64) ?_ (Nat.pow_lt_pow_right (by omega) hk)
  rcases hq:m.ws[i]? with _|x
  ·exact Nat.two_pow_pos _
  ·exact hx.w6 x (List.mem_of_getElem? hq)
 ·rw[List.getElem?_set_ne (by omega)];exact hc.w0
 ·rw[blk_set _ _ _ _ (by omega)];exact hc.rb
 ·exact iff_of_false (short_bit _ j k (by omega) (by omega) hk) (by simp)
 ·intro d hd'
  rw[←ct_self hx hc hd',ctAt_flip _ _ _ _ (by omega) hk]
  constructor
  ·rintro h ⟨-,q⟩;exact h q
  ·intro h q;exact h ⟨by rw[decide_eq_true_iff,←q];exact hd',q⟩
theorem cpL_out (l:List Nat) (b:Nat) (src:List Nat) (a i j:Nat) (h:j<b∨b+i≤j):(cpL l b src a i)[j]? =l[j]?:=by rw[cpL_at,if_neg (by omega)]
theorem lke_counts (hx:MtX m m.dv N N 6 G) (hc:Cmd m) {d x:Nat} (hd:d<m.data) (hx1:1≤x) (hx9:x≤9) :
  Lke m (cpL (cpL m.ws (arAt m.data m.area) (arW (m.S.da.now.set d (m.S.da.count d+x))) 0 (arB m.data * 16)) (m.root * 16) (rtW m.root m.seq m.tree m.time m.data m.chunk m.area (shortC (extendC 0 (arW (m.S.da.now.set d (m.S.da.count d+x)))))) 0 16) (shortC (extendC 0 (arW (m.S.da.now.set d (m.S.da.count d+x)))))∧
   arOf (cpL (cpL m.ws (arAt m.data m.area) (arW (m.S.da.now.set d (m.S.da.count d+x))) 0 (arB m.data * 16)) (m.root * 16) (rtW m.root m.seq m.tree m.time m.data m.chunk m.area (shortC (extendC 0 (arW (m.S.da.now.set d (m.S.da.count d+x)))))) 0 16) m.data m.area=arW (m.S.da.now.set d (m.S.da.count d+x))∧
   (∀e,e<m.data→(ctAt (arW (m.S.da.now.set d (m.S.da.count d+x))) e=m.S.da.count e↔¬(true=true∧e=d)))∧ctAt (arW (m.S.da.now.set d (m.S.da.count d+x))) d=m.S.da.count d+x:=by
 have hdl:=hx.dn
 have hsm:=da_small hx hc
 have hcd:m.S.da.count d≤40000:=by
  have h3:m.S.da.count d=m.S.da.now[d]:=by
   unfold Mp.count
   rw[List.getElem?_eq_getElem (by omega)]
   rfl
  rw[h3]
  exact hsm _ (List.getElem_mem _)
 have hs2:∀y∈m.S.da.now.set d (m.S.da.count d+x),y≤65535:=fun y hy=>by
  rcases List.mem_or_eq_of_mem_set hy with q|q
  ·have:=hsm y q;omega
  ·omega
 obtain ⟨L,hL⟩ :∃q,m.S.da.now.set d (m.S.da.count d+x)=q:=⟨_,rfl⟩
 have hLl:L.length=m.data:=by rw[←hL,List.length_set];exact hdl
 have hLd:L[d]?.getD 0=m.S.da.count d+x:=by rw[←hL,List.getElem?_set_self (by omega)];rfl
 have hLo:∀e,e≠d→L[e]?.getD 0=m.S.da.count e:=fun e he=>by rw[←hL,List.getElem?_set_ne (fun q=>he q.symm)];rfl
 rw[hL] at hs2 ⊢
 have hct:∀e,e<m.data→ctAt (arW L) e=L[e]?.getD 0:=fun e he=>ctAt_arW L hs2 (by omega)
 have hal:(arW L).length=arB m.data * 16:=by rw[arW_len,hLl]
 have haw:=arW_w L hs2
 clear hL hs2
 obtain ⟨A,hA⟩ :∃q,arW L=q:=⟨_,rfl⟩
 rw[hA] at hal haw hct ⊢
 obtain ⟨sm,hsm2⟩ :∃q,shortC (extendC 0 A)=q:=⟨_,rfl⟩
 have hsl:sm<18446744073709551616:=by rw[←hsm2];exact sum_lt _
 rw[hsm2]
 have hfit:=ar_fit hx
 have hrl:=hx.rl
 have hz:=ar_at (data:=m.data) hx.ar (j:=0) (by have:=hx.d1;unfold arB;omega)
 have hz2:arAt m.data m.area+arB m.data * 16≤(2 * arB m.data+1) * 16:=by
  have h1:=hx.ar
  unfold arAt
  rcases (show m.area=0∨m.area=1 by omega) with e|e <;> rw[e] <;> omega
 have hzr:zM m.data m.root m.root=true:=by unfold zM;simp
 have hroot:=Mp.lt_of_count (show m.S.bl.count m.root≠0 by rw[(hx.z1 _ hzr).1];omega)
 have hbn:=hx.bn
 have h4:=hx.len4
 have hb16:(m.root+1) * 16≤m.ws.length:=by unfold blN at hbn;omega
 obtain ⟨f1,f2,f3⟩:=rt_facts m.root m.seq m.tree m.time m.data m.chunk m.area sm (by omega)
 have hcl:(cpL m.ws (arAt m.data m.area) A 0 (arB m.data * 16)).length=m.ws.length:=cpL_length _ _ _ _ _
 have htt:=hx.tree_lt
 have hsq:=hx.sl
 have htm:=hx.tl
 have hnn:=hx.nn
 have hck:=hx.c2
 have har:=hx.ar
 have hd2:=hx.d2
 refine ⟨⟨ndW_of hx hc ((cpL_length _ _ _ _ _).trans hcl) (fun u hu hur=>?_),?_,?_,?_,hsl⟩,?_,?_,?_⟩
 ·rw[blk_cp_out _ _ _ _ _ (by omega),blk_cp_out _ _ _ _ _ (by omega)]
 ·exact cpL_w64 (cpL_w64 hx.w6 haw _ _ _) (rtW_w _ _ _ _ _ _ _ _ (by omega) (by omega) (by omega) (by omega) (by omega) (by omega) hsl) _ _ _
 ·rw[cpL_out _ _ _ _ _ _ (by omega),cpL_out _ _ _ _ _ _ (by omega)]
  exact hc.w0
 ·exact blk_cp _ _ _ (by rw[hcl];exact hb16) f1
 ·rw[arOf_ext (ws:=cpL m.ws (arAt m.data m.area) A 0 (arB m.data * 16)) (fun j h1 h2=>cpL_out _ _ _ _ _ _ (by omega))]
  exact arOf_cp _ _ _ _ hal hfit
 ·intro e he
  rw[hct e he]
  by_cases q:e=d
  ·subst q
   rw[hLd]
   exact iff_of_false (by omega) (by simp)
  ·rw[hLo e q]
   exact iff_of_true rfl (by simp[q])
 ·rw[hct d hd,hLd]
end
end
end Go.Proofs.YtplhdjdkobddnaaGreat
