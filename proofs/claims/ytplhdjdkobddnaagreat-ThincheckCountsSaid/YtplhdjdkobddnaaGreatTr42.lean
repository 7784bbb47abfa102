/- ThQ -/
import Derived.Test.YtplhdjdkobddnaaGreatTr35
import Derived.Test.YtplhdjdkobddnaaGreatTr41
set_option linter.unusedVariables false
set_option maxRecDepth 100000
set_option maxHeartbeats 40000000
namespace Go.Proofs.YtplhdjdkobddnaaGreat
section
open Go.RowKit
attribute [local go_sem] Oper.semAt_some
theorem dvV_parts (r t m:Nat) (hr:r<1048576) (ht:t<1048576) (hm:m<16777216):dvV r t m % 1048576=r∧dvV r t m / 1048576 % 1048576=t∧dvV r t m / 1099511627776 % 16777216=m:=by
 unfold dvV
 omega
structure NdW (m:Mt) (ws:List Nat):Prop where
 ln:ws.length=m.ws.length
 nd:∀u n,m.S.nd (zM m.data m.root) u=some n→dkW ws u=some n
structure KOk (k:CK) (m:Mt):Prop where
 n:k.n=m.ws.length
 bk:k.bk=m.root
 sq:k.sq=m.seq
 tr:k.tr=m.tree
 ti:k.ti=m.time
 da:k.da=m.data
 mp:k.mp=false
 ls:∃A n c,k.ls=.slice A n c∧n<64
structure TrIn (W:World) (C:Nat) (k:CK) (ws:List Nat) (rg:Nat) (rl:List Nat) (len:Nat):Prop where
 ck:CkIn W C k ws
 rf:k.rf=.slice (some ⟨rg,0,none⟩) k.da k.da
 rr:W.ownsRow 0 3 1 (.slice (some ⟨rg,0,none⟩) k.da k.da) k.da (nv rl)
 rln:rl.length=k.da
 r0:∀x∈rl,x=0
 sn:SnIn W k.ms len (fun _=>none)
 tk:Seen W k.mt 0 []
 a1:rg≠C∧rg≠k.g∧rg≠k.ms∧rg≠k.mt
 a2:k.ms≠C∧k.ms≠k.g∧k.mt≠C∧k.mt≠k.g∧k.ms≠k.mt
 lt:k.ms<W.heap.size∧k.mt<W.heap.size
theorem CkIn.maps {W:World} {C:Nat} {k:CK} {ws:List Nat} (h:CkIn W C k ws):CkIn (W.setCell ⟨C,11,none⟩ (.bool true)) C { k with mp:=true } ws:=
 ⟨heap_setCell_same _ _ 11 _ _ _ h.cs,own_fr h.wr (fr_set _ _ _ _) (fun b hb e=>by simp[Value.ownBlock] at hb;exact h.gC (hb.trans e)),h.ln,h.w64,h.nl,h.gC⟩
section
variable {m:Mt} {N:Nat} {G:Gh} {ws:List Nat} {k:CK}
theorem wkE_of (hx:MtX m m.dv N N 6 G) (hw:NdW m ws) (hk:KOk k m):WkE { k with mp:=true } ws (m.S.nd (zM m.data m.root)) G m.S.bl.now.length m.S.seq:=
 ⟨fun u n hn=>by
  obtain ⟨h1,h2,-⟩:=nd_count hn
  have h3:=zM_no h2
  have h4:=nd_lt hn
  refine ⟨hw.nd u n hn,?_,?_,?_,h4,hx.inv.nd u n hn⟩
  ·show u<blN k.n
   rw[hk.n,←hx.bn];exact h4
  ·show 2 * arB k.da<u
   rw[hk.da];omega
  ·show u≠k.bk
   rw[hk.bk];exact h3.2,hx.len4,by show k.da≤16384;rw[hk.da];exact hx.d2,rfl,hk.ls⟩
theorem leaf_of (hx:MtX m m.dv N N 6 G) (hc:Cmd m) (hl:LeafT m) (hlen:m.dv.length≤4) (hw:NdW m ws) (hk:KOk k m):∃n,n.es=dvE m.dv∧DlOk k ws m.tree n m.seq∧m.tree<m.S.bl.now.length:=by
 obtain ⟨n1,g1,g2⟩:=hl
 obtain ⟨n,hn,-⟩:=hx.rt.ex
 have g4:=(nd_count hn).2.2
 rw[g1] at g4
 injection g4 with g4
 subst g4
 obtain ⟨h1,h2,-⟩:=nd_count hn
 have h3:=zM_no h2
 have h4:=nd_lt hn
 have ho:=hx.inv.nd _ _ hn
 have he:n1.es=dvE m.dv:=by
  rw[←hx.et,ho.e]
  unfold eOf
  rw[if_pos g2]
 refine ⟨n1,he,⟨hw.nd _ _ hn,g2,hc.sq _ _ hn,ho.ln,?_,?_,?_,?_,?_,hk.mp,hk.ls⟩,h4⟩
 ·rw[hk.n,←hx.bn];exact h4
 ·rw[hk.da];omega
 ·rw[hk.bk];exact h3.2
 ·rw[hk.da];exact hx.d2
 ·intro e hin
  rw[he] at hin
  obtain ⟨d,hd,rfl⟩:=List.mem_map.1 hin
  have hv:=hx.val_lt hd
  have hdo:=hx.dv d hd
  have:=hdo.id
  have hp:=dvV_parts d.rt d.tm d.mp hv.2.1 hv.2.2.1 hv.2.2.2
  refine ⟨by show (0:Int)≤(d.id:Int);omega,by show (d.id:Int)≤65535;omega,hv.1,?_⟩
  show d.val / 1048576 % 1048576≤k.ti
  unfold Dv.val
  rw[hp.2.1,hk.ti]
  exact hdo.tm
end
theorem thtrees_any (W:World) (C:Nat) (k:CK) (ws:List Nat) (rg:Nat) (rl:List Nat) (m:Mt) (N:Nat) (G:Gh) (H:TrIn W C k ws rg rl m.S.bl.now.length) (hx:MtX m m.dv N N 6 G) (hc:Cmd m) (hl:LeafT m) (hlen:m.dv.length≤4) (hw:NdW m ws) (hk:KOk k m) :
  Calls Tryz.prog 32 #[.pointer (some ⟨C,0,none⟩)] W fun e w'=>e=.returned (.tuple #[])∧∃rl',CkIn w' C { k with mp:=true } ws∧w'.ownsRow 0 3 1 (.slice (some ⟨rg,0,none⟩) k.da k.da) k.da (nv rl')∧rl'.length=k.da∧(∀d,m.S.da.count d=rl'[d]?.getD 0)∧Fr (fun j=>j=C∨j=rg∨j=k.ms∨j=k.mt) W w':=by
 obtain ⟨n,hes,D,htl⟩:=leaf_of hx hc hl hlen hw hk
 have hC:=H.ck.cs.lt
 have hg:=own_lt H.ck.wr _ rfl
 have hrg:=own_lt H.rr _ rfl
 have hL:n.es.length=m.dv.length:=by rw[hes];unfold dvE;rw[List.length_map]
 obtain ⟨A1,hA1⟩ :∃q,W.alloc (.cells #[.pointer (some ⟨C,0,none⟩)] 55)=q:=⟨_,rfl⟩
 obtain ⟨A2,hA2⟩ :∃q,A1.alloc (.cells #[.slice none 0 0] 87)=q:=⟨_,rfl⟩
 obtain ⟨s,hs⟩ :∃q,W.heap.size=q:=⟨_,rfl⟩
 obtain ⟨A3,hA3⟩ :∃q,A2.alloc (.cells #[.int .i64 (-1),.int .i64 (m.seq:Int),.int .i64 0,.int .i64 16777216] 116)=q:=⟨_,rfl⟩
 have s1:A1.heap.size=s+1:=by rw[←hA1,←hs];simp
 have s2:A2.heap.size=s+1+1:=by rw[←hA2,←s1];simp
 have b1:Below W.heap.size W A1:=by rw[←hA1];exact (Below.refl _ W).alloc (Nat.le_refl _) _
 have b2:Below A1.heap.size A1 A2:=by rw[←hA2];exact (Below.refl _ A1).alloc (Nat.le_refl _) _
 have b3:Below A2.heap.size A2 A3:=by rw[←hA3];exact (Below.refl _ A2).alloc (Nat.le_refl _) _
 have b23:=b2.trans (b3.mono b2.size)
 have b13:=b1.trans (b23.mono b1.size)
 have c1:=Cs.new W 55 #[.pointer (some ⟨C,0,none⟩)]
 rw[hA1,hs] at c1
 have c2:=Cs.new A1 87 #[.slice none 0 0]
 rw[hA2,s1] at c2
 have c3:=Cs.new A2 116 #[.int .i64 (-1),.int .i64 (m.seq:Int),.int .i64 0,.int .i64 16777216]
 rw[hA3,s2] at c3
 have d1:=c1.below b23 c1.lt
 have d2:=c2.below b3 c2.lt
 rw[hs] at hC hg hrg
 have HL1:=H.lt
 rw[hs] at HL1
 have HW3:DwIn A3 C s (s+1) k ws m.S.bl.now.length:=⟨H.ck.keep b13,d1,d2,H.sn.fr (G:=fun _=>False) (Fr.of_below b13) (fun q=>q),H.tk.fr (G:=fun _=>False) (Fr.of_below b13) (fun q=>q),⟨hC,hg,HL1.1,HL1.2,by omega⟩,H.a2,hx.len4⟩
 have bd:Below A3.heap.size A3 A3.drew:=(Below.refl _ A3).drew
 have HWK:=Hi (ckdwalk_any D htl A3.drew (HW3.keep bd))
 have HB:=Hi (show Below W.heap.size W A3.drew from b13.trans (bd.mono b13.size))
 have z0:A3.cell? ⟨s,0,none⟩=some (.pointer (some ⟨C,0,none⟩)):=d1.cell 0
 have z3:A3.cell? ⟨C,3,none⟩=some (.int .i64 (m.tree:Int)):=by rw[←hk.tr];exact HW3.ck.cs.cell 3
 have z0a:A2.cell? ⟨s,0,none⟩=some (.pointer (some ⟨C,0,none⟩)):=(c1.below b2 c1.lt).cell 0
 have z2:A2.cell? ⟨C,2,none⟩=some (.int .i64 (m.seq:Int)):=by rw[←hk.sq];exact (H.ck.keep (b1.trans (b2.mono b1.size))).cs.cell 2
 have p0:A3.cell? ⟨s+1+1,0,none⟩=some (.int .i64 (-1)):=c3.cell 0
 have p1:A3.cell? ⟨s+1+1,1,none⟩=some (.int .i64 (m.seq:Int)):=c3.cell 1
 have p2:A3.cell? ⟨s+1+1,2,none⟩=some (.int .i64 0):=c3.cell 2
 have p3:A3.cell? ⟨s+1+1,3,none⟩=some (.int .i64 16777216):=c3.cell 3
 have HS3:Hid (s+1+1<A3.heap.size):=c3.lt
 have HTP:=Hi (c3.below bd c3.lt)
 have ht4:=hx.tree_lt
 have hsl:=hx.sl
 have hnn:=hx.nn
 have HH:=Hi H
 have HX:=Hi hx
 have HCM:=Hi hc
 have HNW:=Hi hw
 have HKO:=Hi hk
 have HES:=Hi hes
 have HAS:Hid (AscE n.es):=by show AscE n.es;rw[hes,←hx.et];obtain ⟨n1,h1,-⟩:=hx.rt.ex;exact (hx.inv.keys _ _ _ h1 rfl).2.2
 have HDES:=Hi D.es
 have HWE:=Hi (wkE_of hx hw hk)
 have HLT:Hid (C<s∧k.g<s∧rg<s∧k.ms<s∧k.mt<s):=⟨hC,hg,hrg,HL1.1,HL1.2⟩
 obtain ⟨sq,hsq⟩ :∃q,m.seq=q:=⟨_,rfl⟩
 obtain ⟨tr,htr⟩ :∃q,m.tree=q:=⟨_,rfl⟩
 obtain ⟨L,hLL⟩ :∃q,n.es.length=q:=⟨_,rfl⟩
 have HSQ:=Hi hsq
 have HTR:=Hi htr
 have HLN:=Hi hLL
 rw[hsq] at HWK z2 p1 hsl hA3 HTP
 rw[htr] at HWK z3 ht4
 rw[hLL] at HWK hL
 have HL2:=Hi hL
 have hL4:L≤4:=by omega
 clear hL
 have v1:IntKind.u64.wrap (tr:Int)=(tr:Int):=IntWalk.u64_in _ (by omega)
 clear hes D H hx hc hl hw hk d1 d2 c1 c2 c3 b1 b2 b3 b23 b13 HW3 hsq htr hLL htl bd hC hg hrg HL1
 go_enter Tryz.func32,Tryz.ntmps32
 go_upto_region 3 with (fail)
 clear hA1 hA2 hA3 s1 s2
 refine wp_region_scr [(true,0),(true,1),(true,2),(true,3),(true,4),(true,5),(true,6),(true,7),(true,8)] [9] 9 (by kernel_rfl) (by decide +kernel) (fun w=>w.cell? ⟨s,0,none⟩=some (.pointer (some ⟨C,0,none⟩))∧w.cell? ⟨C,3,none⟩=some (.int .i64 (tr:Int))∧w.cell? ⟨s+1+1,0,none⟩=some (.int .i64 (-1))∧w.cell? ⟨s+1+1,1,none⟩=some (.int .i64 (sq:Int))∧w.cell? ⟨s+1+1,2,none⟩=some (.int .i64 0)∧w.cell? ⟨s+1+1,3,none⟩=some (.int .i64 16777216)) ⟨z0,z3,p0,p1,p2,p3⟩ ?_
 simp only[pickS,pickL,List.getElem?_toArray,List.getElem?_cons_zero,List.getElem?_cons_succ]
 iterate 9
  refine ⟨?_,Or.inl ⟨by rfl,fun W' hS'=>?_⟩,fun _ _ _ h=>h,?_⟩
  rotate_left
  ·obtain ⟨q0,q1,q2,q3,q4,q5⟩:=hS'
   go_simp
   with_reducible rfl
  simp only[Act.put,List.setIfInBounds_toArray,List.set_cons_zero,List.set_cons_succ]
 refine wpSeqL_list _ _ _ (by simp) ?_
 simp only[List.map_cons,List.map_nil]
 clear z0 z3 z0a z2 p0 p1 p2 p3
 go_wp2_with fail
 refine HWK.out.mono ?_
 rintro e w1 ⟨rfl,⟨A,c,x1,x2,x3⟩,x4,x5,x6,x7,x8⟩
 have HF1:Hid (Fr (fun j=>j=s+1∨j=k.ms∨j=k.mt) W w1):=(Fr.of_below HB.out).trans x8
 have HRW1:=Hi (own_fr HH.out.rr HF1.out (fun b hb e=>by
  simp[Value.ownBlock] at hb
  subst hb
  have:=HLT.out
  have h2:=HH.out.a1
  rcases e with e|e|e
  ·omega
  ·exact h2.2.2.1 e
  ·exact h2.2.2.2 e))
 have HTP1:=Hi (HTP.out.fr x8 (fun e=>by have:=HLT.out;omega))
 have y0:w1.cell? ⟨s,0,none⟩=some (.pointer (some ⟨C,0,none⟩)):=x5.cell 0
 have fz:w1.frozen? ⟨C,11,none⟩=false:=x4.cs.free 11
 have yz:∃v,w1.cell? ⟨C,11,none⟩=some v:=⟨_,x4.cs.cell 11⟩
 obtain ⟨vz,hvz⟩:=yz
 have hCn:¬s+1=C:=by have:=HLT.out;omega
 have y1:(w1.setCell ⟨C,11,none⟩ (.bool true)).cell? ⟨s+1,0,none⟩=some (.slice A L c):=by
  have:=(x1.fr (fr_set w1 C 11 (.bool true)) hCn).cell 0
  exact this
 have hfs:=fr_set w1 C 11 (.bool true)
 have HCK2:=Hi x4.maps
 have HBX2:=Hi (x5.fr hfs (fun e=>by have:=HLT.out;omega))
 have HSN2:=Hi (x6.fr hfs HH.out.a2.1)
 have HSE2:=Hi (x7.fr hfs HH.out.a2.2.2.1)
 have HRW2:=Hi (own_fr HRW1.out hfs (fun b hb e=>by
  simp[Value.ownBlock] at hb
  subst hb
  exact HH.out.a1.1 e))
 have HTP2:=Hi (HTP1.out.fr hfs (fun e=>by have:=HLT.out;omega))
 have HDB2:=Hi (x1.fr hfs hCn)
 have HRD2:Hid (Reads (w1.setCell ⟨C,11,none⟩ (.bool true)) A (ev n.es)):=x2.fr hfs (fun _ p hp e=>by
  have:=x3 p hp
  have:=HS3.out
  have h5:A3.drew.heap.size≤p.block:=x3 p hp
  have h6:A3.heap.size≤p.block:=h5
  have:=HLT.out
  omega)
 have HXA:Hid (∀p,A=some p→s+1+1<p.block):=fun p hp=>by
  have h5:A3.drew.heap.size≤p.block:=x3 p hp
  have h6:A3.heap.size≤p.block:=h5
  have:=HS3.out
  omega
 have HF2:Hid (Fr (fun j=>j=s+1∨j=k.ms∨j=k.mt∨j=C) W (w1.setCell ⟨C,11,none⟩ (.bool true))):=(HF1.out.mono (fun j _ e=>by rcases e with e|e|e <;> simp[e])).trans (hfs.mono (fun j _ e=>by simp[e]))
 clear x1 x2 x3 x4 x5 x6 x7 x8 hfs HWK HTP
 go_wp2_with fail
 obtain ⟨w2,hw2⟩ :∃q,w1.setCell ⟨C,11,none⟩ (.bool true)=q:=⟨_,rfl⟩
 rw[hw2] at HDB2 HCK2 HBX2 HSN2 HSE2 HRW2 HTP2 HRD2 HF2 ⊢
 clear hw2 y0 y1 fz hvz HRW1 HTP1 HF1
 refine (sortdev_any w2 A L c n.es HLN.out HRD2.out HAS.out (fun e he=>by have:=HDES.out e he;omega) (by omega)).mono ?_
 rintro e w3 ⟨rfl,hb3⟩
 have HCK3:=Hi (HCK2.out.keep hb3)
 have HBX3:=Hi (HBX2.out.below hb3 HBX2.out.lt)
 have HSN3:=Hi (HSN2.out.fr (G:=fun _=>False) (Fr.of_below hb3) (fun q=>q))
 have HSE3:=Hi (HSE2.out.fr (G:=fun _=>False) (Fr.of_below hb3) (fun q=>q))
 have HRW3:=Hi (own_keepU' HRW2.out hb3)
 have HTP3:=Hi (HTP2.out.below hb3 HTP2.out.lt)
 have HDB3:=Hi (HDB2.out.below hb3 HDB2.out.lt)
 have HRD3:=Hi (HRD2.out.keep hb3)
 have HF3:=Hi (HF2.out.trans (Fr.of_below hb3))
 have y1:w3.cell? ⟨s+1,0,none⟩=some (.slice A L c):=HDB3.out.cell 0
 clear hb3 HCK2 HBX2 HSN2 HSE2 HRW2 HTP2 HRD2 HF2 HDB2
 obtain ⟨k2,hk2⟩ :∃q:CK,({ k with mp:=true }:CK)=q:=⟨_,rfl⟩
 have HK2:Hid (k2.rf=.slice (some ⟨rg,0,none⟩) k2.da k2.da∧k2.da=k.da∧k2.ms=k.ms∧k2.mt=k.mt∧k2.g=k.g∧k2.ti=k.ti):=by
  rw[←hk2];exact ⟨HH.out.rf,rfl,rfl,rfl,rfl,rfl⟩
 rw[hk2] at HWE HCK3
 have HKQ:=Hi hk2
 have hV3:VkIn w3 C s k2 ws rg rl m.S.bl.now.length (fun w=>if w=tr then some L else none) 1 [(tr:Int)]:=by
  have h1:=HK2.out
  have h2:=HLT.out
  have h3:=HH.out.a1
  have h4:=HH.out.a2
  refine ⟨HCK3.out,HBX3.out,h1.1,by rw[h1.2.1];exact HRW3.out,by rw[h1.2.1];exact HH.out.rln,by rw[h1.2.2.1];exact HSN3.out,by rw[h1.2.2.2.1];exact HSE3.out,⟨h3.1,by omega,by rw[h1.2.2.2.2.1];exact h3.2.1,by rw[h1.2.2.1];exact h3.2.2.1,by rw[h1.2.2.2.1];exact h3.2.2.2⟩,⟨by rw[h1.2.2.1];exact h4.1,by rw[h1.2.2.1];omega,by rw[h1.2.2.1,h1.2.2.2.2.1];exact h4.2.1,by rw[h1.2.2.1,h1.2.2.2.1];exact h4.2.2.2.2⟩,?_⟩
  rw[h1.2.2.1]
  have:=HBX3.out.lt
  omega
 have hVI3:VI (m.S.nd (zM m.data m.root)) G m.S.bl.now.length (fun w=>if w=tr then some L else none) rl:=VI.made HH.out.r0 (fun u hu=>by
  by_cases q:u=tr
  ·rw[q,←HTR.out];exact HX.out.kt
  ·exact absurd (if_neg q) hu)
 have HV3:=Hi hV3
 have HVI3:=Hi hVI3
 have HTT:Hid (∀x∈[(tr:Int)],∀u n,m.S.nd (zM m.data m.root) u=some n→G.K u=true→x≠(u:Int)):=fun x hx u n hn hk e=>by
  have h1:x=(tr:Int):=by simpa using hx
  have h2:u=tr:=by omega
  rw[h2,←HTR.out,HX.out.kt] at hk
  cases hk
 clear hV3 hVI3 HSN3 HSE3 HRW3 HCK3 hk2
 go_wp2_with fail
 go_loopw [5,6,7,31] (fun _ _ _ s31 wr=>∃(i:Nat) (f:Nat→Option Nat) (rli:List Nat),i≤L∧s31=.int .i64 (i:Int)∧Hid (VkIn wr C s k2 ws rg rli m.S.bl.now.length f 1 [(tr:Int)])∧Hid (VI (m.S.nd (zM m.data m.root)) G m.S.bl.now.length f rli)∧Hid (∀j,j<i→f (m.dv[j]?.getD ⟨0,0,0,0⟩).rt≠none)∧Hid (Fr (fun j=>j=rg∨j=k.ms) w3 wr)) (fun _ _ _ s31 _=>L - (intOf s31).toNat)
 case atStart=>exact ⟨0,_,rl,Nat.zero_le _,rfl,HV3,HVI3,fun j hj=>absurd hj (Nat.not_lt_zero _),Fr.refl _ _⟩
 case round=>
  obtain ⟨i,fi,rli,hiL,rfl,hv,hvi,hfd,hfr⟩:=hrel
  by_cases hlt:i<L
  ·have u1:(i:Int)<(L:Int):=by omega
   have hRd:=HRD3.out.fr hfr.out (fun _ p hp e=>by
    have h1:=HXA.out p hp
    have h2:=HLT.out
    rcases e with e|e <;> omega)
   obtain ⟨ab,ao,rfl,hal,hcl⟩:=hRd.e (by rw[HLN.out];omega)
   obtain ⟨hk1,hv1⟩:=hcl i (by rw[HLN.out];exact hlt)
   have hi1:i<m.dv.length:=by have:=HL2.out;omega
   obtain ⟨d,hd⟩ :∃q,m.dv[i]?.getD ⟨0,0,0,0⟩=q:=⟨_,rfl⟩
   have hdm:d∈m.dv:=by rw[←hd,List.getElem?_eq_getElem hi1];exact List.getElem_mem _
   have hent:n.es[i]?.getD (0,0)=((d.id:Int),d.val):=by
    rw[HES.out,←hd]
    unfold dvE
    rw[List.getElem?_map,List.getElem?_eq_getElem hi1]
    rfl
   rw[hent] at hk1 hv1
   obtain ⟨g1,g2,g3,g4⟩:=HX.out.val_lt hdm
   have hdo:=HX.out.dv d hdm
   obtain ⟨nr,r1,r2,r3⟩:=hdo.rt.ex
   have hkeys:=HX.out.inv.keys nr.lv d.rt nr r1 rfl
   have hdr:=HX.out.rt_lt hdm
   have hpp:=dvV_parts d.rt d.tm d.mp g2 g3 g4
   have hdv:Calls Tryz.prog 74 #[.int .u64 (d.val:Int)]=Calls Tryz.prog 74 #[.int .u64 (d.val:Int)]:=rfl
   have hDO:=fun w=>thdeviceof_any d.val w g1
   have e1:d.val % 1048576=d.rt:=hpp.1
   have e2:d.val / 1048576 % 1048576=d.tm:=hpp.2.1
   have e3:d.val / 1099511627776 % 16777216=d.mp:=hpp.2.2
   rw[e1,e2,e3] at hDO
   have HDO:=Hi hDO
   have HWK:=Hi (fun w (hw:VkIn w C s k2 ws rg rli m.S.bl.now.length fi 1 [(tr:Int)])=>ckwalk_any HWE.out HTT.out r1 hdo.k (fun e he=>by
    have:=hdo.es e he
    have h1:=HK2.out
    have h2:=HKO.out
    refine ⟨by rw[h1.2.1,h2.da];exact this.1,by rw[h1.2.2.2.2.2,h2.ti];exact this.2.1,by have:=this.2.2;omega⟩) (by rw[hdo.mp];have:=hdo.mn;omega) w fi rli (-1) sq 0 16777216 hw hvi.out ⟨.inl ⟨rfl,r2⟩,by rw[←HSQ.out];exact HCM.out.sq _ _ r1⟩ hkeys.2.1)
   rw[hdo.mp] at HWK
   obtain ⟨vd,hvd⟩ :∃q,d.val=q:=⟨_,rfl⟩
   obtain ⟨did,hdid⟩ :∃q,d.id=q:=⟨_,rfl⟩
   obtain ⟨drt,hdrt⟩ :∃q,d.rt=q:=⟨_,rfl⟩
   obtain ⟨dtm,hdtm⟩ :∃q,d.tm=q:=⟨_,rfl⟩
   obtain ⟨dmp,hdmp⟩ :∃q,d.mp=q:=⟨_,rfl⟩
   rw[hvd] at HDO hv1
   rw[hdid] at hk1
   rw[hdrt] at HDO HWK hdr
   rw[hdtm] at HDO
   rw[hdmp] at HDO HWK
   have HDD:=Hi hd
   have HDR:=Hi hdrt
   clear hd hdm hent hdo r1 r2 r3 hkeys hpp hdv hDO e1 e2 e3 g1 g2 g3 g4 hvd hdid hdrt hdtm hdmp hcl
   have e1:IntKind.i64.wrap ((i:Int)+1)=((i+1:Nat):Int):=by rw[IntWalk.i64_in _ (by omega)];rfl
   have v2:IntKind.u64.wrap (drt:Int)=(drt:Int):=IntWalk.u64_in _ (by omega)
   have ba:Below wr.heap.size wr (wr.alloc (.cells #[.int .i64 (did:Int),.int .u64 (vd:Int)] 94)):=(Below.refl _ wr).alloc (Nat.le_refl _) _
   have CE:=Cs.new wr 94 #[.int .i64 (did:Int),.int .u64 (vd:Int)]
   have HV4:=Hi (hv.out.keep ba)
   have HTP4:=Hi ((HTP3.out.fr hfr.out (fun e=>by have:=HLT.out;omega)).below ba (HTP3.out.fr hfr.out (fun e=>by have:=HLT.out;omega)).lt)
   have HF4:Hid (Fr (fun j=>j=rg∨j=k.ms) w3 _):=hfr.out.trans (Fr.of_below ba)
   clear ba hRd hv
   go_upto_region 9 with (fail)
   generalize (wr.alloc (.cells #[.int .i64 (did:Int),.int .u64 (vd:Int)] 94))=w4 at CE HV4 HTP4 HF4 ⊢
   obtain ⟨eb,heb⟩ :∃q,wr.heap.size=q:=⟨_,rfl⟩
   rw[heb] at CE hal ⊢
   clear heb hk1 hv1
   have q1:w4.cell? ⟨eb,1,none⟩=some (.int .u64 (vd:Int)):=CE.cell 1
   clear CE
   go_wp2_with fail
   refine (HDO.out _).mono ?_
   rintro e w5 ⟨rfl,hb5⟩
   have bo:Below w5.heap.size w5 (w5.alloc (.cells #[.int .i64 (drt:Int),.int .i64 (dtm:Int),.int .i64 (dmp:Int)] 119)):=(Below.refl _ w5).alloc (Nat.le_refl _) _
   have CX:=Cs.new w5 119 #[.int .i64 (drt:Int),.int .i64 (dtm:Int),.int .i64 (dmp:Int)]
   have hbb:=hb5.trans (bo.mono hb5.size)
   have hs5:s<w5.heap.size:=Nat.lt_of_lt_of_le HV4.out.bx.lt hb5.size
   have HV6:=Hi (HV4.out.keep hbb)
   have HTP6:=Hi (HTP4.out.below hbb HTP4.out.lt)
   have HF6:=Hi (HF4.out.trans (Fr.of_below hbb))
   clear hb5 bo hbb q1
   go_upto_region 10 with (fail)
   generalize (w5.alloc (.cells #[.int .i64 (drt:Int),.int .i64 (dtm:Int),.int .i64 (dmp:Int)] 119))=w6 at CX HV6 HTP6 HF6 ⊢
   obtain ⟨pb,hpb⟩ :∃q,w5.heap.size=q:=⟨_,rfl⟩
   rw[hpb] at CX hs5 ⊢
   clear hpb
   have x0:w6.cell? ⟨pb,0,none⟩=some (.int .i64 (drt:Int)):=CX.cell 0
   have x2:w6.cell? ⟨pb,2,none⟩=some (.int .i64 (dmp:Int)):=CX.cell 2
   have z0:w6.cell? ⟨s,0,none⟩=some (.pointer (some ⟨C,0,none⟩)):=HV6.out.bx.cell 0
   have p0:w6.cell? ⟨s+1+1,0,none⟩=some (.int .i64 (-1)):=HTP6.out.cell 0
   have p1:w6.cell? ⟨s+1+1,1,none⟩=some (.int .i64 (sq:Int)):=HTP6.out.cell 1
   have p2:w6.cell? ⟨s+1+1,2,none⟩=some (.int .i64 0):=HTP6.out.cell 2
   have p3:w6.cell? ⟨s+1+1,3,none⟩=some (.int .i64 16777216):=HTP6.out.cell 3
   have hpb6:=CX.lt
   have HCX:=Hi CX
   clear CX
   go_wp2_with fail
   refine (HWK.out _ HV6.out).mono ?_
   rintro e w7 ⟨rfl,f7,rl7,hv7,hi7,hf7,hm7,hfr7⟩
   have hfr7':Fr (fun j=>j=rg∨j=k.ms) w6 w7:=hfr7.mono (fun j _ e=>by rw[HK2.out.2.2.1] at e;exact e)
   have x2':w7.cell? ⟨pb,2,none⟩=some (.int .i64 (dmp:Int)):=(hfr7'.cell (i:=2) hpb6 (fun e=>by have:=HLT.out;omega)).trans x2
   have HV7:=Hi hv7
   have HI7:=Hi hi7
   have HF7:=Hi (HF6.out.trans hfr7')
   have HD7:Hid (∀j,j<i+1→f7 (m.dv[j]?.getD ⟨0,0,0,0⟩).rt≠none):=fun j hj=>by
    by_cases q:j=i
    ·rw[q,HDD.out,HDR.out];exact hf7
    ·exact hm7 _ (hfd.out j (by omega))
   clear hv7 hi7 hf7 hm7 hfr7 hfr7' x0 x2 z0 p0 p1 p2 p3 HWK
   go_wp2_with fail
   go_roundw
   case rel=>exact ⟨i+1,f7,rl7,hlt,by go_num,HV7.out,HI7.out,HD7.out,HF7.out⟩
   case measure=>simp[intOf];omega
  ·obtain rfl:i=L:=by omega
   have u1:¬(i:Int)<(i:Int):=by omega
   have HFIN:Hid (∃rl',CkIn wr C { k with mp:=true } ws∧wr.ownsRow 0 3 1 (.slice (some ⟨rg,0,none⟩) k.da k.da) k.da (nv rl')∧rl'.length=k.da∧(∀d,m.S.da.count d=rl'[d]?.getD 0)∧Fr (fun j=>j=C∨j=rg∨j=k.ms∨j=k.mt) W wr):=by
    have h1:=HK2.out
    refine ⟨rli,by rw[HKQ.out];exact hv.out.ck,by have:=hv.out.rr;rw[h1.2.1] at this;exact this,by rw[hv.out.rl];exact h1.2.1,fun d=>?_,?_⟩
    ·have h2:=cnt_all HX.out.inv HX.out.kt hvi.out (fun r hr=>by
      obtain ⟨d,hd,rfl⟩:=List.mem_map.1 hr
      obtain ⟨j,hj,rfl⟩:=List.mem_iff_getElem.1 hd
      have:=hfd.out j (by have:=HL2.out;omega)
      rw[List.getElem?_eq_getElem hj] at this
      exact this) d
     rw[HCM.out.pe] at h2
     simpa using h2
    ·have h5:Fr (fun j=>j=C∨j=rg∨j=k.ms∨j=k.mt) W w3:=HF3.out.mono (fun j hj e=>by
      rcases e with e|e|e|e
      ·omega
      ·exact .inr (.inr (.inl e))
      ·exact .inr (.inr (.inr e))
      ·exact .inl e)
     exact h5.trans (hfr.out.mono (fun j _ e=>by
      rcases e with e|e
      ·exact .inr (.inl e)
      ·exact .inr (.inr (.inl e))))
   clear hv hvi hfd hfr
   go_wp2_with fail
   obtain ⟨rl',g1,g2⟩:=HFIN.out
   exact bodyPost_end (results_none rfl _ _ _) rfl ⟨rfl,g1,rl',g2⟩
end
end Go.Proofs.YtplhdjdkobddnaaGreat
