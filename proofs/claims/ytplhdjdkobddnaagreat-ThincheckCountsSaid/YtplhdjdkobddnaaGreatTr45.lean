/- ThR -/
import Derived.Test.YtplhdjdkobddnaaGreatTr42
import Derived.Test.YtplhdjdkobddnaaGreatTr44
set_option linter.unusedVariables false
set_option maxRecDepth 100000
set_option maxHeartbeats 40000000
namespace Go.Proofs.YtplhdjdkobddnaaGreat
section
open Go.RowKit
attribute [local go_sem] Oper.semAt_some
def vA (b:Bool):List Value:=if b=true then vioC 3 0 0 else []
def nA (b:Bool):Nat:=if b=true then 1 else 0
def vD (b:Bool) (d x:Nat):List Value:=if b=true then vioC 13 (d:Int) (x:Int) else []
def CK.new (g n c ms mt:Nat):CK:=⟨g,n,c,0,0,0,0,0,0,0,0,ms,mt,false,.slice none 0 0,.slice none 0 0⟩
theorem CkIn.bk {W:World} {C:Nat} {k:CK} {ws:List Nat} (h:CkIn W C k ws) (b:Nat):CkIn (W.setCell ⟨C,1,none⟩ (.int .i64 (b:Int))) C { k with bk:=b } ws:=
 ⟨heap_setCell_same _ _ 1 _ _ _ h.cs,own_fr h.wr (fr_set _ _ _ _) (fun b hb e=>by simp[Value.ownBlock] at hb;exact h.gC (hb.trans e)),h.ln,h.w64,h.nl,h.gC⟩
theorem CkIn.rfs {W:World} {C:Nat} {k:CK} {ws:List Nat} (h:CkIn W C k ws) (v:Value):CkIn (W.setCell ⟨C,12,none⟩ v) C { k with rf:=v } ws:=
 ⟨heap_setCell_same _ _ 12 _ _ _ h.cs,own_fr h.wr (fr_set _ _ _ _) (fun b hb e=>by simp[Value.ownBlock] at hb;exact h.gC (hb.trans e)),h.ln,h.w64,h.nl,h.gC⟩
def putR (W:World) (C sq tr ti da ck ar sm:Nat):World:=((((((W.setCell ⟨C,2,none⟩ (.int .i64 (sq:Int))).setCell ⟨C,3,none⟩ (.int .i64 (tr:Int))).setCell ⟨C,4,none⟩ (.int .i64 (ti:Int))).setCell ⟨C,5,none⟩ (.int .i64 (da:Int))).setCell ⟨C,6,none⟩ (.int .i64 (ck:Int))).setCell ⟨C,7,none⟩ (.int .i64 (ar:Int))).setCell ⟨C,8,none⟩ (.int .u64 (sm:Int))
theorem Cs.root7 {W:World} {g:Nat} {t:TypeId} {x0 x1 a b c d e f h x9 x10 x11 x12 x13:Value} (hh:Cs W g t #[x0,x1,a,b,c,d,e,f,h,x9,x10,x11,x12,x13]) (a' b' c' d' e' f' h':Value):Cs (((((((W.setCell ⟨g,2,none⟩ a').setCell ⟨g,3,none⟩ b').setCell ⟨g,4,none⟩ c').setCell ⟨g,5,none⟩ d').setCell ⟨g,6,none⟩ e').setCell ⟨g,7,none⟩ f').setCell ⟨g,8,none⟩ h') g t #[x0,x1,a',b',c',d',e',f',h',x9,x10,x11,x12,x13]:=by
 have q0:Cs (W.setCell ⟨g,2,none⟩ a') g t #[x0,x1,a',b,c,d,e,f,h,x9,x10,x11,x12,x13]:=heap_setCell_same _ g 2 _ t a' hh
 have q1:Cs ((W.setCell ⟨g,2,none⟩ a').setCell ⟨g,3,none⟩ b') g t #[x0,x1,a',b',c,d,e,f,h,x9,x10,x11,x12,x13]:=heap_setCell_same _ g 3 _ t b' q0
 have q2:Cs (((W.setCell ⟨g,2,none⟩ a').setCell ⟨g,3,none⟩ b').setCell ⟨g,4,none⟩ c') g t #[x0,x1,a',b',c',d,e,f,h,x9,x10,x11,x12,x13]:=heap_setCell_same _ g 4 _ t c' q1
 have q3:Cs ((((W.setCell ⟨g,2,none⟩ a').setCell ⟨g,3,none⟩ b').setCell ⟨g,4,none⟩ c').setCell ⟨g,5,none⟩ d') g t #[x0,x1,a',b',c',d',e,f,h,x9,x10,x11,x12,x13]:=heap_setCell_same _ g 5 _ t d' q2
 have q4:Cs (((((W.setCell ⟨g,2,none⟩ a').setCell ⟨g,3,none⟩ b').setCell ⟨g,4,none⟩ c').setCell ⟨g,5,none⟩ d').setCell ⟨g,6,none⟩ e') g t #[x0,x1,a',b',c',d',e',f,h,x9,x10,x11,x12,x13]:=heap_setCell_same _ g 6 _ t e' q3
 have q5:Cs ((((((W.setCell ⟨g,2,none⟩ a').setCell ⟨g,3,none⟩ b').setCell ⟨g,4,none⟩ c').setCell ⟨g,5,none⟩ d').setCell ⟨g,6,none⟩ e').setCell ⟨g,7,none⟩ f') g t #[x0,x1,a',b',c',d',e',f',h,x9,x10,x11,x12,x13]:=heap_setCell_same _ g 7 _ t f' q4
 have q6:Cs (((((((W.setCell ⟨g,2,none⟩ a').setCell ⟨g,3,none⟩ b').setCell ⟨g,4,none⟩ c').setCell ⟨g,5,none⟩ d').setCell ⟨g,6,none⟩ e').setCell ⟨g,7,none⟩ f').setCell ⟨g,8,none⟩ h') g t #[x0,x1,a',b',c',d',e',f',h',x9,x10,x11,x12,x13]:=heap_setCell_same _ g 8 _ t h' q5
 exact q6
theorem fr_root7 (W:World) (g:Nat) (a' b' c' d' e' f' h':Value):Fr (fun j=>j=g) W (((((((W.setCell ⟨g,2,none⟩ a').setCell ⟨g,3,none⟩ b').setCell ⟨g,4,none⟩ c').setCell ⟨g,5,none⟩ d').setCell ⟨g,6,none⟩ e').setCell ⟨g,7,none⟩ f').setCell ⟨g,8,none⟩ h'):=by
 have q0:=fr_set W g 2 a'
 have q1:Fr (fun j=>j=g) W ((W.setCell ⟨g,2,none⟩ a').setCell ⟨g,3,none⟩ b'):=q0.set (.inl rfl) _
 have q2:Fr (fun j=>j=g) W (((W.setCell ⟨g,2,none⟩ a').setCell ⟨g,3,none⟩ b').setCell ⟨g,4,none⟩ c'):=q1.set (.inl rfl) _
 have q3:Fr (fun j=>j=g) W ((((W.setCell ⟨g,2,none⟩ a').setCell ⟨g,3,none⟩ b').setCell ⟨g,4,none⟩ c').setCell ⟨g,5,none⟩ d'):=q2.set (.inl rfl) _
 have q4:Fr (fun j=>j=g) W (((((W.setCell ⟨g,2,none⟩ a').setCell ⟨g,3,none⟩ b').setCell ⟨g,4,none⟩ c').setCell ⟨g,5,none⟩ d').setCell ⟨g,6,none⟩ e'):=q3.set (.inl rfl) _
 have q5:Fr (fun j=>j=g) W ((((((W.setCell ⟨g,2,none⟩ a').setCell ⟨g,3,none⟩ b').setCell ⟨g,4,none⟩ c').setCell ⟨g,5,none⟩ d').setCell ⟨g,6,none⟩ e').setCell ⟨g,7,none⟩ f'):=q4.set (.inl rfl) _
 have q6:Fr (fun j=>j=g) W (((((((W.setCell ⟨g,2,none⟩ a').setCell ⟨g,3,none⟩ b').setCell ⟨g,4,none⟩ c').setCell ⟨g,5,none⟩ d').setCell ⟨g,6,none⟩ e').setCell ⟨g,7,none⟩ f').setCell ⟨g,8,none⟩ h'):=q5.set (.inl rfl) _
 exact q6
theorem CkIn.root {W:World} {C:Nat} {k:CK} {ws:List Nat} (h:CkIn W C k ws) (sq tr ti da ck ar sm:Nat):CkIn (putR W C sq tr ti da ck ar sm) C { k with sq:=sq,tr:=tr,ti:=ti,da:=da,ck:=ck,ar:=ar,sm:=sm } ws:=
 ⟨Cs.root7 h.cs _ _ _ _ _ _ _,own_fr h.wr (fr_root7 _ _ _ _ _ _ _ _ _) (fun b hb e=>by simp[Value.ownBlock] at hb;exact h.gC (hb.trans e)),h.ln,h.w64,h.nl,h.gC⟩
theorem putR_fr (W:World) (C sq tr ti da ck ar sm:Nat):Fr (fun j=>j=C) W (putR W C sq tr ti da ck ar sm):=fr_root7 _ _ _ _ _ _ _ _ _
theorem CkIn.lst {W W':World} {C:Nat} {k:CK} {ws:List Nat} {o:Option Nat} (h:CkIn W C k ws) {v:Value} (hc:Cs W' C 61 ({ k with ls:=v }:CK).cells) (hf:Fr (fun j=>j=C∨o=some j) W W') (hg:o≠some k.g):CkIn W' C { k with ls:=v } ws:=
 ⟨hc,own_fr h.wr hf (fun b hb e=>by simp[Value.ownBlock] at hb;subst hb;exact e.elim h.gC hg),h.ln,h.w64,h.nl,h.gC⟩
theorem thcheck_any (W:World) (g n c:Nat) (ws:List Nat) (m:Mt) (N:Nat) (G:Gh) (sm d0:Nat) (bA bD:Bool)
  (hr:W.ownsRow 0 39 1 (.slice (some ⟨g,0,none⟩) n c) n (uv ws)) (hn:ws.length=n) (hcap:n≤c) (h64:W64 ws)
  (hx:MtX m m.dv N N 6 G) (hc:Cmd m) (hl:LeafT m) (hlen:m.dv.length≤4) (hw:NdW m ws)
  (w0:ws[0]?.getD 0=cwW m.root m.seq) (rb:blkW ws m.root=rtW m.root m.seq m.tree m.time m.data m.chunk m.area sm) (hsm:sm<18446744073709551616)
  (hA:shortC (extendC 0 (arOf ws m.data m.area))=sm↔bA=false) (hD:∀d,d<m.data→(ctAt (arOf ws m.data m.area) d=m.S.da.count d↔¬(bD=true∧d=d0))) (hd0:bD=true→d0<m.data) :
  Calls Tryz.prog 8 #[.slice (some ⟨g,0,none⟩) n c] W fun e w'=>∃v,e=.returned v∧w'.ownsRow W.heap.size 52 4 v (nA bA+nA bD) (vA bA++vD bD d0 (ctAt (arOf ws m.data m.area) d0))∧Below W.heap.size W w':=by
 have hgl:g<W.heap.size:=own_lt hr _ rfl
 obtain ⟨i0,hi0,hz0,hz1,hz2⟩:=info_parts int_info
 have hnw:n=m.ws.length:=hn.symm.trans hw.ln
 have hwl:=hx.wl
 have hsz:=hx.sz
 have hd1:=hx.d1
 have hd2:=hx.d2
 have hsl:=hx.sl
 have htl:=hx.tl
 have hnn:=hx.nn
 have har:=hx.ar
 have hrl:=hx.rl
 have htt:=hx.tree_lt
 have hck:=hx.c2
 have hck1:=hx.c1
 have h16:16≤n:=by omega
 have hzr:zM m.data m.root m.root=true:=by unfold zM;simp
 have hroot:=Mp.lt_of_count (show m.S.bl.count m.root≠0 by rw[(hx.z1 _ hzr).1];omega)
 have hbn:=hx.bn
 have h4:=hx.len4
 have hrb:m.root<blN n:=by rw[hnw,←hbn];exact hroot
 have hb16:(m.root+1) * 16≤n:=by unfold blN at hrb;omega
 have hbl4:blN n≤4096:=by unfold blN;omega
 have harB:arB m.data≤257∧1≤arB m.data:=by unfold arB;omega
 have hat:arAt m.data m.area+arB m.data * 16≤n:=by
  unfold arAt
  rcases (show m.area=0∨m.area=1 by omega) with e|e <;> rw[e] <;> omega
 have hRD:=Hi (threadroot_any m.seq m.tree m.time m.data m.chunk m.area sm m.root n ⟨by omega,by omega,by omega,hd1,hd2,hck1,hck,har,hsm,by omega,by omega,by omega,by omega⟩ (some ⟨g,m.root * 16,none⟩) (c - m.root * 16))
 have hCM:=Hi (fun w=>thcommit_any (cwW m.root m.seq) w (cwW_lt _ _))
 obtain ⟨f1,f2⟩:=cw_fields m.root m.seq (by omega) (by omega)
 have f3:=cwOk_W m.root m.seq (by omega) (by omega)
 rw[f1,f2,f3] at hCM
 obtain ⟨s,hs⟩ :∃q,W.heap.size=q:=⟨_,rfl⟩
 obtain ⟨A1,hA1⟩ :∃q,W.alloc (.map #[] 0)=q:=⟨_,rfl⟩
 obtain ⟨A2,hA2⟩ :∃q,A1.alloc (.map #[] 0)=q:=⟨_,rfl⟩
 obtain ⟨A3,hA3⟩ :∃q,A2.alloc (.cells #[.slice (some ⟨g,0,none⟩) n c,.int .i64 0,.int .i64 0,.int .i64 0,.int .i64 0,.int .i64 0,.int .i64 0,.int .i64 0,.int .u64 0,.map (some s),.map (some (s+1)),.bool false,.slice none 0 0,.slice none 0 0] 61)=q:=⟨_,rfl⟩
 have s1:A1.heap.size=s+1:=by rw[←hA1,←hs];simp
 have s2:A2.heap.size=s+1+1:=by rw[←hA2,←s1];simp
 have s3:A3.heap.size=s+1+1+1:=by rw[←hA3,←s2];simp
 have b1:Below W.heap.size W A1:=by rw[←hA1];exact (Below.refl _ W).alloc (Nat.le_refl _) _
 have b2:Below A1.heap.size A1 A2:=by rw[←hA2];exact (Below.refl _ A1).alloc (Nat.le_refl _) _
 have b3:Below A2.heap.size A2 A3:=by rw[←hA3];exact (Below.refl _ A2).alloc (Nat.le_refl _) _
 have b23:=b2.trans (b3.mono b2.size)
 have b13:=b1.trans (b23.mono b1.size)
 have c1:SnIn A1 s m.S.bl.now.length (fun _=>none):=by rw[←hA1,←hs];exact SnIn.made W _
 have c2:Seen A2 (s+1) 0 []:=by rw[←hA2,←s1];exact Seen.made A1
 have c3:Cs A3 (s+1+1) 61 (CK.new g n c s (s+1)).cells:=by
  have:=Cs.new A2 61 #[.slice (some ⟨g,0,none⟩) n c,.int .i64 0,.int .i64 0,.int .i64 0,.int .i64 0,.int .i64 0,.int .i64 0,.int .i64 0,.int .u64 0,.map (some s),.map (some (s+1)),.bool false,.slice none 0 0,.slice none 0 0]
  rw[hA3,s2] at this
  exact this
 rw[hs] at hgl
 have K3:CkIn A3 (s+1+1) (CK.new g n c s (s+1)) ws:=⟨c3,own_keepU' hr b13,hn,h64,by show n≤100000;omega,by show g≠s+1+1;omega⟩
 have S3:=Hi (c1.fr (G:=fun _=>False) (Fr.of_below b23) (fun q=>q))
 have T3:=Hi (c2.fr (G:=fun _=>False) (Fr.of_below b3) (fun q=>q))
 have HB3:=Hi b13
 have HK3:=Hi K3
 have x0:A3.cell? ⟨g,0,none⟩=some (.int .u64 ((cwW m.root m.seq:Nat):Int)):=by
  have:=K3.wr.cellAt 0 (by show 0<n * 1;omega)
  rw[uv_at ws 0 (by omega),w0] at this
  exact this
 obtain ⟨cw,hcw⟩ :∃q,cwW m.root m.seq=q:=⟨_,rfl⟩
 rw[hcw] at hCM x0
 have hmm:=@run_makeMap Tryz.prog
 have d16:¬(n:Int)<16:=by omega
 have HX:=Hi hx
 have HCM:=Hi hc
 have HLF:=Hi hl
 have HNW:=Hi hw
 have HRB:=Hi rb
 have HDD:=Hi hD
 have HAA:=Hi hA
 have HW64:=Hi h64
 have HN:=Hi hn
 have HNM:=Hi hnw
 have HWL:Hid (n≤100000∧(2 * arB m.data+49) * 16≤n):=by constructor <;> omega
 have hn5:n≤100000:=HWL.out.1
 clear hnw hwl hsz hn hx hc hl hw rb hD hA c1 c2 c3 K3 b1 b2 b3 b23 b13 w0 hcw f1 f2 f3 h64 hr hzr
 go_enter Tryz.func8,Tryz.ntmps8
 go_upto_region 5 with (fail)
 clear hA1 hA2 hA3 s1 s2
 have hC3:s+1+1<A3.heap.size:=HK3.out.cs.lt
 go_wp2_with fail
 refine (hCM.out _).mono ?_
 rintro e w1 ⟨rfl,hb1⟩
 have K1:=HK3.out.keep hb1
 have HZ1:Hid (A3.heap.size≤w1.heap.size):=hb1.size
 have S1:=Hi (S3.out.fr (G:=fun _=>False) (Fr.of_below hb1) (fun q=>q))
 have T1:=Hi (T3.out.fr (G:=fun _=>False) (Fr.of_below hb1) (fun q=>q))
 have HB1:=Hi (HB3.out.trans (hb1.mono HB3.out.size))
 have g1:w1.frozen? ⟨s+1+1,1,none⟩=false:=K1.cs.free 1
 have y1:w1.cell? ⟨s+1+1,1,none⟩=some (.int .i64 0):=K1.cs.cell 1
 have K2:=K1.bk m.root
 obtain ⟨w2,hw2⟩ :∃q,w1.setCell ⟨s+1+1,1,none⟩ (.int .i64 (m.root:Int))=q:=⟨_,rfl⟩
 rw[hw2] at K2
 have F2:Hid (Fr (fun j=>j=s+1+1) w1 w2):=by rw[←hw2];exact fr_set _ _ _ _
 have HBL:=Hi (ckblocks_any w2 (s+1+1) _ K2.cs (by show n≤1000000;omega))
 have HAT:=Hi (ckat_any w2 (s+1+1) _ K2.cs m.root hb16 hcap (by show n≤1000000;omega))
 have hrd:Reads w2 (some ⟨g,m.root * 16,none⟩) (uv (rtW m.root m.seq m.tree m.time m.data m.chunk m.area sm)):=by
  rw[←HRB.out]
  exact blk_reads (by rw[HN.out];exact K2.wr) (by rw[HN.out];exact hb16)
 have HRR:=Hi (hRD.out w2 hrd)
 have S2:=Hi (S1.out.fr F2.out (fun e=>by omega))
 have T2:=Hi (T1.out.fr F2.out (fun e=>by omega))
 have HK2:=Hi K2
 obtain ⟨B,hB⟩ :∃q,blN n=q:=⟨_,rfl⟩
 have hBL2:=HBL.out
 have hBL3:Calls Tryz.prog 26 #[.pointer (some ⟨s+1+1,0,none⟩)] w2 fun e w'=>e=.returned (.int .i64 ((B:Nat):Int))∧w2=w':=by
  rw[←hB];exact hBL2
 have HBL3:=Hi hBL3
 have dB:(m.root:Int)<(B:Int):=by rw[←hB];omega
 clear hBL2 hBL3 HBL hB hrd K2 K1 x0 hb1 hRD hCM
 go_wp2_with fail
 refine HBL3.out.mono ?_
 rintro e w' ⟨rfl,rfl⟩
 clear HBL3 hw2 y1 g1
 go_wp2_with fail
 refine HAT.out.mono ?_
 rintro e w' ⟨rfl,rfl⟩
 clear HAT
 go_wp2_with fail
 refine HRR.out.mono ?_
 rintro e w3 ⟨rfl,hb3⟩
 have K3:=HK2.out.keep hb3
 have y2:w3.cell? ⟨s+1+1,2,none⟩=some (.int .i64 0):=K3.cs.cell 2
 have y3:w3.cell? ⟨s+1+1,3,none⟩=some (.int .i64 0):=K3.cs.cell 3
 have y4:w3.cell? ⟨s+1+1,4,none⟩=some (.int .i64 0):=K3.cs.cell 4
 have y5:w3.cell? ⟨s+1+1,5,none⟩=some (.int .i64 0):=K3.cs.cell 5
 have y6:w3.cell? ⟨s+1+1,6,none⟩=some (.int .i64 0):=K3.cs.cell 6
 have y7:w3.cell? ⟨s+1+1,7,none⟩=some (.int .i64 0):=K3.cs.cell 7
 have y8:w3.cell? ⟨s+1+1,8,none⟩=some (.int .u64 0):=K3.cs.cell 8
 have g2:=K3.cs.free 2
 have g3:=K3.cs.free 3
 have g4:=K3.cs.free 4
 have g5:=K3.cs.free 5
 have g6:=K3.cs.free 6
 have g7:=K3.cs.free 7
 have g8:=K3.cs.free 8
 have K4:=K3.root m.seq m.tree m.time m.data m.chunk m.area sm
 have F4:=putR_fr w3 (s+1+1) m.seq m.tree m.time m.data m.chunk m.area sm
 obtain ⟨w4,hw4⟩ :∃q,putR w3 (s+1+1) m.seq m.tree m.time m.data m.chunk m.area sm=q:=⟨_,rfl⟩
 rw[hw4] at K4 F4
 unfold putR at hw4
 obtain ⟨k4,hk4⟩ :∃q:CK,({ { CK.new g n c s (s+1) with bk:=m.root } with sq:=m.seq,tr:=m.tree,ti:=m.time,da:=m.data,ck:=m.chunk,ar:=m.area,sm:=sm }:CK)=q:=⟨_,rfl⟩
 have K4':CkIn w4 (s+1+1) k4 ws:=by rw[←hk4];exact K4
 have HF4:Hid (Fr (fun j=>j=s+1+1) w1 w4):=(F2.out.trans (Fr.of_below hb3)).trans F4
 have S4:=Hi (S1.out.fr HF4.out (fun e=>by omega))
 have T4:=Hi (T1.out.fr HF4.out (fun e=>by omega))
 have HK4:=Hi K4'
 have HKK:=Hi hk4
 clear K4 K4' F4 K3 hb3 hk4
 go_upto_region 16 with (fail)
 clear y2 y3 y4 y5 y6 y7 y8 g2 g3 g4 g5 g6 g7 g8 hw4
 have HKF:Hid (k4.sq=m.seq∧k4.tr=m.tree∧k4.ti=m.time∧k4.da=m.data∧k4.ck=m.chunk∧k4.ar=m.area∧k4.sm=sm∧k4.g=g∧k4.n=n∧k4.c=c∧k4.bk=m.root∧k4.ms=s∧k4.mt=s+1∧k4.mp=false∧k4.ls=.slice none 0 0∧k4.rf=.slice none 0 0):=by
  rw[←HKK.out];exact ⟨rfl,rfl,rfl,rfl,rfl,rfl,rfl,rfl,rfl,rfl,rfl,rfl,rfl,rfl,rfl,rfl⟩
 have HCC:∀w (k':CK),CkIn w (s+1+1) k' ws→k'.sq=k4.sq→k'.tr=k4.tr→k'.ti=k4.ti→k'.da=k4.da→k'.ck=k4.ck→k'.ar=k4.ar→k'.sm=k4.sm→w.cell? ⟨s+1+1,2,none⟩=some (.int .i64 (m.seq:Int))∧w.cell? ⟨s+1+1,3,none⟩=some (.int .i64 (m.tree:Int))∧w.cell? ⟨s+1+1,4,none⟩=some (.int .i64 (m.time:Int))∧w.cell? ⟨s+1+1,5,none⟩=some (.int .i64 (m.data:Int))∧w.cell? ⟨s+1+1,6,none⟩=some (.int .i64 (m.chunk:Int))∧w.cell? ⟨s+1+1,7,none⟩=some (.int .i64 (m.area:Int))∧w.cell? ⟨s+1+1,8,none⟩=some (.int .u64 (sm:Int)):=fun w k' hk e1 e2 e3 e4 e5 e6 e7=>by
  obtain ⟨h1,h2,h3,h4,h5,h6,h7,-⟩:=HKF.out
  exact ⟨by rw[←h1,←e1];exact hk.cs.cell 2,by rw[←h2,←e2];exact hk.cs.cell 3,by rw[←h3,←e3];exact hk.cs.cell 4,by rw[←h4,←e4];exact hk.cs.cell 5,by rw[←h5,←e5];exact hk.cs.cell 6,by rw[←h6,←e6];exact hk.cs.cell 7,by rw[←h7,←e7];exact hk.cs.cell 8⟩
 have HCCH:=Hi HCC
 obtain ⟨z2,z3,z4,z5,z6,z7,z8⟩:=HCC w4 k4 HK4.out rfl rfl rfl rfl rfl rfl rfl
 have HAW:=Hi (fun w=>thareaat_any m.seq m.tree m.time m.data m.chunk m.area sm w hd2 har)
 have HAB:=Hi (fun w=>thareas_any m.data w (by omega))
 obtain ⟨aa,haa⟩ :∃q,arAt m.data m.area=q:=⟨_,rfl⟩
 obtain ⟨ab,hab⟩ :∃q,arB m.data=q:=⟨_,rfl⟩
 have HAE:Hid (arAt m.data m.area=aa∧arB m.data=ab):=⟨haa,hab⟩
 rw[haa] at HAW hat
 rw[hab] at HAB hat harB
 clear HCC haa hab HRR
 go_wp2_with fail
 refine (HAW.out _).mono ?_
 rintro e w5 ⟨rfl,hb5⟩
 have K5:=HK4.out.keep hb5
 have HK5:=Hi K5
 obtain ⟨-,-,-,z5,-,-,z8⟩:=HCCH.out w5 k4 K5 rfl rfl rfl rfl rfl rfl rfl
 have S5:=Hi (S4.out.fr (G:=fun _=>False) (Fr.of_below hb5) (fun q=>q))
 have T5:=Hi (T4.out.fr (G:=fun _=>False) (Fr.of_below hb5) (fun q=>q))
 have HF5:=Hi (HF4.out.trans (Fr.of_below hb5))
 clear K5 hb5 z2 z3 z4 z6 z7
 have v1:IntKind.i64.wrap ((ab:Int) * 16)=((ab * 16:Nat):Int):=by rw[IntWalk.i64_in _ (by omega)];omega
 have v2:IntKind.i64.wrap ((aa:Int)+((ab * 16:Nat):Int))=((aa+ab * 16:Nat):Int):=by rw[IntWalk.i64_in _ (by omega)];omega
 go_wp2_with fail
 refine (HAB.out _).mono ?_
 rintro e w' ⟨rfl,rfl⟩
 go_wp2_with fail
 have hsub:aa+ab * 16 - aa=ab * 16:=by omega
 rw[hsub]
 clear hsub v1 v2 z5
 obtain ⟨al,hal⟩ :∃q,arOf ws m.data m.area=q:=⟨_,rfl⟩
 have hll:al.length=ab * 16:=by rw[←hal,←HAE.out.2];exact arOf_len (by rw[HAE.out.1,HAE.out.2,HN.out];exact hat)
 have hrd5:Reads w5 (some ⟨g,aa,none⟩) (uv al):=by
  have h1:=HK5.out.wr
  have h2:=HKF.out
  rw[h2.2.2.2.2.2.2.2.1,h2.2.2.2.2.2.2.2.2.1,h2.2.2.2.2.2.2.2.2.2.1] at h1
  have:=arOf_reads h1 HN.out (data:=m.data) (area:=m.area) (by rw[HAE.out.1,HAE.out.2];exact hat)
  rw[hal,HAE.out.1] at this
  exact this
 have hal64:W64 al:=by rw[←hal];exact arOf_w HW64.out _ _
 have HSH:=Hi (fun w (hw:Reads w (some ⟨g,aa,none⟩) (uv al))=>thshort_any (some ⟨g,aa,none⟩) (ab * 16) (c - aa) al w hll hw hal64 (by omega))
 have HRD5:=Hi hrd5
 have HAL:=Hi hal
 have HLL:=Hi hll
 have HA64:=Hi hal64
 have HAA2:Hid (shortC (extendC 0 al)=sm↔bA=false):=by have:=HAA.out;rw[hal] at this;exact this
 have HDD2:Hid (∀d,d<m.data→(ctAt al d=m.S.da.count d↔¬(bD=true∧d=d0))):=by have:=HDD.out;rw[hal] at this;exact this
 clear hal hll hrd5 hal64 HAA HDD
 obtain ⟨sh,hsh⟩ :∃q,shortC (extendC 0 al)=q:=⟨_,rfl⟩
 rw[hsh] at HSH HAA2
 have hC5:s+1+1<w5.heap.size:=HK5.out.cs.lt
 have hmx:sh<18446744073709551616:=by rw[←hsh];have:=shortC_lt (extendC 0 al);omega
 clear hsh
 refine wp_region_scr [(true,0),(true,2),(true,3),(true,4),(true,5),(true,6),(false,1)] [7] 7 (by kernel_rfl) (by decide +kernel) (fun w=>w.cell? ⟨s+1+1,8,none⟩=some (.int .u64 (sm:Int))) z8 ?_
 simp only[pickS,pickL,List.getElem?_toArray,List.getElem?_cons_zero,List.getElem?_cons_succ]
 iterate 6
  refine ⟨?_,Or.inl ⟨by rfl,fun W' hS'=>?_⟩,fun _ _ _ h=>h,?_⟩
  rotate_left
  ·have hS2:W'.cell? ⟨s+1+1,8,none⟩=some (.int .u64 (sm:Int)):=hS'
   go_simp
   with_reducible rfl
  simp only[Act.put,List.setIfInBounds_toArray,List.set_cons_zero,List.set_cons_succ]
 refine wpScr_step (fun K hK=>?_)
 go_simp
 go_at_call 31
 refine (HSH.out _ (HRD5.out.keep (Below.refl _ w5).drew)).mono ?_
 rintro e w6 ⟨rfl,hb6⟩
 have hbw:Below w5.heap.size w5 w6:=(Below.refl _ w5).drew.trans hb6
 refine hK _ _ ((hbw.cell (p:=⟨s+1+1,8,none⟩) hC5).trans z8) ?_
 clear hK K
 have HK6:=Hi (HK5.out.keep hbw)
 have S6:=Hi (S5.out.fr (G:=fun _=>False) (Fr.of_below hbw) (fun q=>q))
 have T6:=Hi (T5.out.fr (G:=fun _=>False) (Fr.of_below hbw) (fun q=>q))
 have hC1:s+1+1<w1.heap.size:=Nat.lt_of_lt_of_le HK3.out.cs.lt HZ1.out
 have HB6:Hid (Below W.heap.size W w6):=by
  have h1:=HF5.out.trans (Fr.of_below hbw)
  exact HB1.out.trans (h1.below (by have:=HB1.out.size;omega) (fun j hj=>by have:j=s+1+1:=hj;omega))
 clear hb6 hbw z8 HSH
 refine wpSeqL_list _ _ _ (by simp) ?_
 simp only[List.map_cons,List.map_nil]
 have HSS:=Hi hs
 clear hs hmm
 have HV0:Hid (w6.ownsRow (s+1+1+1) 52 4 k4.ls 0 []):=by
  rw[HKF.out.2.2.2.2.2.2.2.2.2.2.2.2.2.2.1];exact World.ownsRow_nil _ _ _ _
 go_upto_if 97 with (fail)
 go_cut [] (fun wx=>∃v,Hid (CkIn wx (s+1+1) { k4 with ls:=v } ws)∧Hid (wx.ownsRow (s+1+1+1) 52 4 v (nA bA) (vA bA))∧Hid (SnIn wx s m.S.bl.now.length (fun _=>none))∧Hid (Seen wx (s+1) 0 [])∧Hid (Below W.heap.size W wx))
 case first=>
  cases bA with
  |false=>
   have e1:sh=sm:=HAA2.out.2 rfl
   have e2:((sh:Int) != (sm:Int))=false:=by simp[e1]
   clear e1
   go_wp2_with fail
   go_meet
   case rel=>
    refine ⟨k4.ls,HK6.out,?_,S6.out,T6.out,HB6.out⟩
    exact HV0.out
  |true=>
   have e1:sh≠sm:=fun q=>by have:=HAA2.out.1 q;cases this
   have e2:((sh:Int) != (sm:Int))=true:=by simp;omega
   have HAD:=Hi (ckadd_any w6 (s+1+1) k4 HK6.out.cs (s+1+1+1) (by omega) HK6.out.cs.lt 0 [] HV0.out (by omega) 3 (by omega) 0 0)
   clear e1
   go_wp2_with fail
   refine HAD.out.mono ?_
   rintro e w7 ⟨rfl,v,q1,q2,q3,q4⟩
   have hnl:k4.ls.ownBlock=none:=by rw[HKF.out.2.2.2.2.2.2.2.2.2.2.2.2.2.2.1];rfl
   rw[hnl] at q3
   have q3':Fr (fun j=>j=s+1+1) w6 w7:=q3.mono (fun j _ e=>e.elim id (fun q=>by cases q))
   have hR:Hid (∃v,Hid (CkIn w7 (s+1+1) { k4 with ls:=v } ws)∧Hid (w7.ownsRow (s+1+1+1) 52 4 v (nA true) (vA true))∧Hid (SnIn w7 s m.S.bl.now.length (fun _=>none))∧Hid (Seen w7 (s+1) 0 [])∧Hid (Below W.heap.size W w7)):=
    ⟨v,HK6.out.lst q1 q3 (fun q=>by cases q),q2,S6.out.fr q3' (fun e=>by omega),T6.out.fr q3' (fun e=>by omega),HB6.out.trans (q3'.below (HB6.out.size) (fun j hj=>by have:=HSS.out;have:j=s+1+1:=hj;omega))⟩
   clear q1 q2 q3 q4 q3'
   go_wp2_with fail
   go_meet
   case rel=>exact hR.out
 case rest=>
  obtain ⟨v,hck,hrow,hsn,hse,hbw⟩:=hcut
  obtain ⟨vA',vc,hv⟩:=own_form hrow.out
  have hn1:nA bA≤1:=by unfold nA;split <;> omega
  obtain ⟨na,hna⟩ :∃q,nA bA=q:=⟨_,rfl⟩
  have HNA:=Hi hna
  rw[hna] at hn1 hv hrow
  clear hna
  obtain ⟨vb,hvb⟩ :∃q,v.ownBlock=q:=⟨_,rfl⟩
  have HVB:Hid (∀b,vb=some b→s+1+1+1≤b∧b<wc.heap.size):=fun b hb=>⟨own_base hrow.out b (hvb.trans hb),own_lt hrow.out b (hvb.trans hb)⟩
  have HVL:Hid (∃A n c,v=.slice A n c∧n<64):=⟨vA',na,vc,hv,by omega⟩
  obtain ⟨k5,hk5⟩ :∃q:CK,({ k4 with ls:=v }:CK)=q:=⟨_,rfl⟩
  have HK5F:Hid (k5.sq=m.seq∧k5.tr=m.tree∧k5.ti=m.time∧k5.da=m.data∧k5.g=g∧k5.n=n∧k5.bk=m.root∧k5.ms=s∧k5.mt=s+1∧k5.mp=false∧k5.ls=v∧k5.rf=.slice none 0 0):=by
   obtain ⟨h1,h2,h3,h4,h5,h6,h7,h8,h9,h10,h11,h12,h13,h14,h15,h16⟩:=HKF.out
   rw[←hk5]
   exact ⟨h1,h2,h3,h4,h8,h9,h11,h12,h13,h14,rfl,h16⟩
  rw[hk5] at hck
  have y5:wc.cell? ⟨s+1+1,5,none⟩=some (.int .i64 (m.data:Int)):=by rw[←HK5F.out.2.2.2.1];exact hck.out.cs.cell 5
  have HVBE:=Hi hvb
  clear hv hk5 hvb HKF HKK HCCH
  go_wp2_with (at_make;refine wpList_make_full _ rfl _ _ _ rfl wc.heap.size 3 i0 _ 1 Tryz.underlying22 hi0 hz0 hz1 .i64 .i64 _ _ m.data rfl rfl rfl rfl ?_ ?_ ?_ ?_)
  ·rw[hz2];omega
  ·simp only[maxLen];omega
  ·exact Nat.le_refl _
  intro w8 hown hg8
  rw[nv_zero] at hown
  have hb8:Below wc.heap.size wc w8:=(Below.refl _ wc).grown hg8 (Nat.le_refl _) (by intro k hk;cases hk)
  obtain ⟨rg,hrg⟩ :∃q,wc.heap.size=q:=⟨_,rfl⟩
  have HRG:=Hi hrg
  have hCwc:s+1+1<rg:=by rw[←hrg];exact hck.out.cs.lt
  have hrg8:rg<w8.heap.size:=by rw[←hrg];exact own_lt hown _ rfl
  have K8:=hck.out.keep hb8
  have HR8:=Hi (own_keepU' hrow.out hb8)
  have S8:=Hi (hsn.out.fr (G:=fun _=>False) (Fr.of_below hb8) (fun q=>q))
  have T8:=Hi (hse.out.fr (G:=fun _=>False) (Fr.of_below hb8) (fun q=>q))
  have HB8:=Hi (hbw.out.trans (hb8.mono hbw.out.size))
  have HO8:=Hi (own_lower hown (Nat.zero_le _))
  have y12:w8.cell? ⟨s+1+1,12,none⟩=some (.slice none 0 0):=by rw[←HK5F.out.2.2.2.2.2.2.2.2.2.2.2];exact K8.cs.cell 12
  have f12:=K8.cs.free 12
  have HK8:=Hi K8
  rw[hrg] at HO8 HVB ⊢
  clear hown hg8 hb8 K8 hrg hck hrow hsn hse hbw y5
  obtain ⟨w9,hw9⟩ :∃q,w8.setCell ⟨s+1+1,12,none⟩ (.slice (some ⟨rg,0,none⟩) m.data m.data)=q:=⟨_,rfl⟩
  have hf9:Fr (fun j=>j=s+1+1) w8 w9:=by rw[←hw9];exact fr_set _ _ _ _
  have K9:=HK8.out.rfs (.slice (some ⟨rg,0,none⟩) m.data m.data)
  rw[hw9] at K9
  have HR9:=Hi (own_fr HR8.out hf9 (fun b hb e=>by have:=HVB.out b (HVBE.out.symm.trans hb);omega))
  have S9:=Hi (S8.out.fr hf9 (fun e=>by omega))
  have T9:=Hi (T8.out.fr hf9 (fun e=>by omega))
  have HO9:=Hi (own_fr HO8.out hf9 (fun b hb e=>by simp[Value.ownBlock] at hb;omega))
  have HB9:Hid (Below W.heap.size W w9):=HB8.out.trans (hf9.below HB8.out.size (fun j hj=>by have:=HSS.out;have:j=s+1+1:=hj;omega))
  obtain ⟨k6,hk6⟩ :∃q:CK,({ k5 with rf:=.slice (some ⟨rg,0,none⟩) m.data m.data }:CK)=q:=⟨_,rfl⟩
  rw[hk6] at K9
  have HK6F:Hid (k6.sq=m.seq∧k6.tr=m.tree∧k6.ti=m.time∧k6.da=m.data∧k6.g=g∧k6.n=n∧k6.bk=m.root∧k6.ms=s∧k6.mt=s+1∧k6.mp=false∧k6.ls=v∧k6.rf=.slice (some ⟨rg,0,none⟩) m.data m.data):=by
   obtain ⟨h1,h2,h3,h4,h5,h6,h7,h8,h9,h10,h11,h12⟩:=HK5F.out
   rw[←hk6]
   exact ⟨h1,h2,h3,h4,h5,h6,h7,h8,h9,h10,h11,rfl⟩
  have hTR:TrIn w9 (s+1+1) k6 ws rg (List.replicate m.data 0) m.S.bl.now.length:=by
   obtain ⟨h1,h2,h3,h4,h5,h6,h7,h8,h9,h10,h11,h12⟩:=HK6F.out
   have hlt1:=S9.out
   refine ⟨K9,by rw[h4];exact h12,by rw[h4];exact HO9.out,by rw[h4];simp,fun x hx=>List.eq_of_mem_replicate hx,by rw[h8];exact S9.out,by rw[h9];exact T9.out,⟨by omega,by omega,by omega,by omega⟩,⟨by omega,by omega,by omega,by omega,by omega⟩,?_⟩
   have:=hf9.size
   omega
  have hKO:KOk k6 m:=by
   obtain ⟨h1,h2,h3,h4,h5,h6,h7,h8,h9,h10,h11,h12⟩:=HK6F.out
   exact ⟨h6.trans HNM.out,h7,h1,h2,h3,h4,h10,by rw[h11];exact HVL.out⟩
  have HTR:=Hi (thtrees_any w9 (s+1+1) k6 ws rg (List.replicate m.data 0) m N G hTR HX.out HCM.out HLF.out hlen HNW.out hKO)
  clear hTR hKO hk6 K9 hf9
  go_wp2_with fail
  refine HTR.out.mono ?_
  rintro e w10 ⟨rfl,rl',q1,q2,q3,q4,q5⟩
  obtain ⟨k7,hk7⟩ :∃q:CK,({ k6 with mp:=true }:CK)=q:=⟨_,rfl⟩
  rw[hk7] at q1
  obtain ⟨h1,h2,h3,h4,h5,h6,h7,h8,h9,h10,h11,h12⟩:=HK6F.out
  have HK7F:Hid (k7.da=m.data∧k7.g=g∧k7.n=n∧k7.ls=v∧k7.rf=.slice (some ⟨rg,0,none⟩) m.data m.data):=by
   rw[←hk7];exact ⟨h4,h5,h6,h11,h12⟩
  rw[h4] at q2 q3
  rw[h8,h9] at q5
  have HR10:=Hi (own_fr HR9.out q5 (fun b hb e=>by have:=HVB.out b (HVBE.out.symm.trans hb);omega))
  have HB10:Hid (Below W.heap.size W w10):=HB9.out.trans (q5.below HB9.out.size (fun j hj=>by have:=HSS.out;have:j=s+1+1∨j=rg∨j=s∨j=s+1:=hj;omega))
  have hrd10:Reads w10 (some ⟨g,aa,none⟩) (uv al):=by
   have h1:=q1.wr
   have h2:=HK7F.out
   rw[h2.2.1,h2.2.2.1] at h1
   have:=arOf_reads h1 HN.out (data:=m.data) (area:=m.area) (by rw[HAE.out.1,HAE.out.2];exact hat)
   rw[HAL.out,HAE.out.1] at this
   exact this
  have HAC:=Hi (thareacounts_any (some ⟨g,aa,none⟩) (ab * 16) (c - aa) m.data al w10 HLL.out hrd10 HA64.out hd2 (by rw[HAE.out.2];exact Nat.le_refl _) (by omega))
  have y5:w10.cell? ⟨s+1+1,5,none⟩=some (.int .i64 (m.data:Int)):=by rw[←HK7F.out.1];exact q1.cs.cell 5
  have HK10:=Hi q1
  have HO10:=Hi q2
  have HRL:=Hi q3
  have HCT:=Hi q4
  have hz10:rg<w10.heap.size:=own_lt q2 _ rfl
  clear q1 q2 q3 q4 q5 h1 h2 h3 h4 h5 h6 h7 h8 h9 h10 h11 h12 hrd10 hk7 y12 f12 hw9
  go_wp2_with fail
  refine HAC.out.mono ?_
  rintro e w11 ⟨g2,rfl,hc11,hb11⟩
  have hg2:=own_base hc11 g2 rfl
  have hg2l:=own_lt hc11 g2 rfl
  have HC11:=Hi hc11
  have HK11:=Hi (HK10.out.keep hb11)
  have HO11:=Hi (own_keepU' HO10.out hb11)
  have HR11:=Hi (own_keepU' HR10.out hb11)
  have HB11:=Hi (HB10.out.trans (hb11.mono HB10.out.size))
  have hCr:s+1+1<w11.heap.size:=HK11.out.cs.lt
  have hrg11:rg<w11.heap.size:=Nat.lt_of_lt_of_le hz10 hb11.size
  clear hc11 hb11 y5 HAC
  go_wp2_with fail
  go_loopw [9,10,119] (fun _ _ s119 wr=>∃(i:Nat) (v':Value),i≤m.data∧s119=.int .i64 (i:Int)∧Hid (CkIn wr (s+1+1) { k7 with ls:=v' } ws)∧Hid (wr.ownsRow (s+1+1+1) 52 4 v' (na+nA (bD && decide (d0<i))) (vA bA++vD (bD && decide (d0<i)) d0 (ctAt al d0)))∧Hid (Fr (fun j=>j=s+1+1∨vb=some j) w11 wr)∧Hid ((bD=true∧d0<i)∨v'=v)) (fun _ _ s119 _=>m.data - (intOf s119).toNat)
  case atStart=>
   refine ⟨0,v,Nat.zero_le _,rfl,?_,?_,Fr.refl _ _,.inr rfl⟩
   ·have h1:=HK11.out
    have h2:=HK7F.out.2.2.2.1
    rw[show ({ k7 with ls:=v }:CK)=k7 by rw[←h2]]
    exact h1
   ·have e0:(bD && decide (d0<0))=false:=by simp
    rw[e0]
    show w11.ownsRow _ _ 4 v (na+nA false) (vA bA++vD false d0 _)
    have e1:nA false=0:=rfl
    have e2:∀x,vD false d0 x= []:=fun _=>rfl
    rw[e1,e2,Nat.add_zero,List.append_nil]
    exact HR11.out
  case round=>
   obtain ⟨i,v',hi,rfl,hk,hrw,hfr,hvv⟩:=hrel
   by_cases hlt:i<m.data
   ·have u1:(i:Int)<(m.data:Int):=by omega
    have hcr:=own_fr HC11.out hfr.out (fun b hb e=>by
     simp[Value.ownBlock] at hb
     rcases e with e|e
     ·omega
     ·have:=HVB.out _ e;omega)
    have hor:=own_fr HO11.out hfr.out (fun b hb e=>by
     simp[Value.ownBlock] at hb
     rcases e with e|e
     ·omega
     ·have:=HVB.out _ e;omega)
    have zc:=hcr.cellAt i (by omega)
    rw[nv_at _ _ (by rw[ctsN_len];exact hlt)] at zc
    have zr:=hor.cellAt i (by omega)
    rw[nv_at _ _ (by rw[HRL.out];exact hlt),←HCT.out] at zr
    have ec:(ctsN al m.data)[i]?.getD 0=ctAt al i:=by
     unfold ctsN
     rw[List.getElem?_map,List.getElem?_range hlt]
     rfl
    rw[ec] at zc
    have z12:wr.cell? ⟨s+1+1,12,none⟩=some (.slice (some ⟨rg,0,none⟩) m.data m.data):=by rw[←HK7F.out.2.2.2.2];exact hk.out.cs.cell 12
    have hdd:=HDD2.out i hlt
    obtain ⟨cx,hcx⟩ :∃q,ctAt al i=q:=⟨_,rfl⟩
    obtain ⟨cy,hcy⟩ :∃q,m.S.da.count i=q:=⟨_,rfl⟩
    rw[hcx] at zc hdd
    rw[hcy] at zr hdd
    have e1:IntKind.i64.wrap ((i:Int)+1)=((i+1:Nat):Int):=by rw[IntWalk.i64_in _ (by omega)];rfl
    have HCX:=Hi hcx
    clear hcr hor ec hcx hcy
    by_cases hb:bD=true∧i=d0
    ·have hne:cx≠cy:=fun q=>(hdd.1 q) hb
     have d1:((cx:Int) != (cy:Int))=true:=by simp;omega
     obtain ⟨hb1,rfl⟩:=hb
     have hv2:v'=v:=hvv.out.resolve_left (fun q=>by omega)
     subst hv2
     have hn0:nA (bD && decide (i<i))=0:=by simp[nA]
     have hvs0:vD (bD && decide (i<i)) i (ctAt al i)= []:=by simp[vD]
     have hrw2:=hrw.out
     rw[hn0,hvs0,List.append_nil,Nat.add_zero] at hrw2
     have HAD:=Hi (ckadd_any wr (s+1+1) { k7 with ls:=v' } hk.out.cs (s+1+1+1) (by omega) (by have:=hfr.out.size;omega) na (vA bA) hrw2 (by omega) 13 (by omega) (i:Int) (cx:Int))
     have HB1:=Hi hb1
     have hk':=hk
     have hrn:=hfr
     clear hne hdd hrw2 hb1 hn0 hvs0 hrw hvv
     go_wp2_with fail
     refine HAD.out.mono ?_
     rintro e w12 ⟨rfl,v2,q1,q2,q3,q4⟩
     have q3':Fr (fun j=>j=s+1+1∨vb=some j) wr w12:=q3.mono (fun j _ e=>e.elim .inl (fun q=>.inr (HVBE.out.symm.trans q)))
     have HK12:Hid (CkIn w12 (s+1+1) { k7 with ls:=v2 } ws):=hk'.out.lst q1 q3 (fun q=>by
      have:=HVB.out _ (HVBE.out.symm.trans q)
      have h5:k7.g=g:=HK7F.out.2.1
      have h6:s+1+1+1≤k7.g:=this.1
      omega)
     have HR12:Hid (w12.ownsRow (s+1+1+1) 52 4 v2 (na+nA (bD && decide (i<i+1))) (vA bA++vD (bD && decide (i<i+1)) i (ctAt al i))):=by
      have e5:(bD && decide (i<i+1))=true:=by rw[HB1.out];simp
      rw[e5,HCX.out]
      exact q2
     have HF12:=Hi (hrn.out.trans q3')
     clear q1 q2 q3 q4 q3' HAD hk hfr
     go_wp2_with fail
     go_roundw
     case rel=>exact ⟨i+1,v2,hlt,by go_num,HK12.out,HR12.out,HF12.out,.inl ⟨HB1.out,by omega⟩⟩
     case measure=>simp[intOf];omega
    ·have heq:cx=cy:=hdd.2 hb
     have d1:((cx:Int) != (cy:Int))=false:=by simp;omega
     have e5:(bD && decide (d0<i+1))=(bD && decide (d0<i)):=by
      cases hbd:bD with
      |false=>rfl
      |true=>
       have:i≠d0:=fun q=>hb ⟨hbd,q⟩
       simp
       omega
     have HE5:=Hi e5
     have hv2:Hid ((bD=true∧d0<i+1)∨v'=v):=hvv.out.elim (fun q=>.inl ⟨q.1,by omega⟩) .inr
     clear heq hdd hb e5
     go_wp2_with fail
     go_roundw
     case rel=>exact ⟨i+1,v',hlt,by go_num,hk.out,by rw[HE5.out];exact hrw.out,hfr.out,hv2.out⟩
     case measure=>simp[intOf];omega
   ·obtain rfl:i=m.data:=by omega
    have u1:¬(m.data:Int)<(m.data:Int):=by omega
    obtain ⟨Av,cv,hv2⟩:=own_form hrw.out
    have z13:wr.cell? ⟨s+1+1,13,none⟩=some v':=hk.out.cs.cell 13
    have HFIN:Hid (wr.ownsRow W.heap.size 52 4 v' (nA bA+nA bD) (vA bA++vD bD d0 (ctAt (arOf ws m.data m.area) d0))∧Below W.heap.size W wr):=by
     have e5:(bD && decide (d0<m.data))=bD:=by
      cases hbd:bD with
      |false=>rfl
      |true=>simp[hd0 hbd]
     have h1:=hrw.out
     rw[e5,←HNA.out] at h1
     rw[HAL.out]
     have hs5:=HSS.out
     refine ⟨own_lower h1 (by omega),HB11.out.trans (hfr.out.below HB11.out.size (fun j hj=>?_))⟩
     rcases hj with q|q
     ·omega
     ·have:=HVB.out _ q;omega
    rw[hv2] at z13 HFIN
    clear hk hrw hfr hvv
    go_wp2_with fail
    go_ret
    exact ⟨_,rfl,HFIN.out⟩
end
end Go.Proofs.YtplhdjdkobddnaaGreat
