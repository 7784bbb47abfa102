/- MtO -/
import Derived.Test.YtplhdjdkobddnaaGreatTr43
set_option linter.unusedVariables false
set_option maxRecDepth 100000
set_option maxHeartbeats 40000000
namespace Go.Proofs.YtplhdjdkobddnaaGreat
section
open Go.RowKit
attribute [local go_sem] Oper.semAt_some
theorem ropen27_new (W:World) (g c data chunk:Nat) (ws:List Nat) (hA:W.ownsRow 0 39 1 (.slice (some ⟨g,0,none⟩) ws.length c) ws.length (uv ws)) (h:NewW ws data chunk) :
  Calls Tryz.prog 13 #[.slice (some ⟨g,0,none⟩) ws.length c] W fun e w'=>∃(M:Nat) (P:SP),e=.returned (.tuple #[.pointer (some ⟨M,0,none⟩),.int .i64 0])∧P.w=g∧P.cw=c∧W.heap.size≤M∧MtIn w' (fun j=>j=g∨(W.heap.size≤j∧j≠M)) M P (Mt.new ws data chunk)∧Below W.heap.size W w':=by
 obtain ⟨q1,q2,q3,q4,q5,q6,q7,q8,q9,q10,q11,q12,q13,q14,q15,q16,q17⟩:=h
 have hfr:=Hi (fun w=>rfrom27_any (ws[0]?.getD 0) w (q5.at 0))
 rw[q8,q9,q10] at hfr
 obtain ⟨a,ha⟩ :∃q,arB data=q:=⟨_,rfl⟩
 have HA:=Hi ha
 rw[ha] at q6 q9 q11 q12 q13 q14 q15 q17 hfr
 have hab:a≤257∧1≤a:=by rw[←ha];unfold arB;omega
 obtain ⟨sm,hsm⟩ :∃q,shortC (extendC 0 (arOf ws data 0))=q:=⟨_,rfl⟩
 have hsl:sm<65536:=by rw[←hsm];exact shortC_lt _
 rw[hsm] at q11
 obtain ⟨n,hn⟩ :∃n,ws.length=n:=⟨_,rfl⟩
 rw[hn] at hA q6 q7 q17 ⊢
 have hbl:blN n≤4096∧blN n≤n / 16:=by unfold blN;omega
 have hok:HdrOk ⟨0,0,data,chunk,0,2 * a+1,sm⟩ (2 * a+2) n:=⟨by simp,by simp,q1,q2,q3,q4,by simp,by simp only[];rw[ha];exact q6,by simp only[];rw[ha];omega,by omega⟩
 have HRT:Hid (∀w,Below W.heap.size W w→Calls Tryz.prog 15 #[.slice (some ⟨g,0,none⟩) n c,.int .i64 ((2 * a+2:Nat):Int)] w fun e w'=>e=.returned (.tuple #[(Hdr.mk 0 0 data chunk 0 (2 * a+1) sm).v,.bool true])∧Below w.heap.size w w'):=fun w hw=>rroot_ok g n c (2 * a+2) ws _ w hn (own_keepU' hA hw) q5 q7 hok q11 (by simp only[];omega) (by simp only[];omega)
 have x0:=hA.cellAt 0 (by omega)
 rw[uv_at _ _ (by omega)] at x0
 obtain ⟨cw0,hcw0⟩ :∃q,ws[0]?.getD 0=q:=⟨_,rfl⟩
 rw[hcw0] at x0 hfr
 have d0:¬(n:Int)<1:=by omega
 have d1:(0:Int)<(n:Int):=by omega
 have d1b:0<n:=by omega
 have HV:Hid ((Hdr.mk 0 0 data chunk 0 (2 * a+1) sm).v=.agg #[.int .i64 0,.int .i64 0,.int .i64 (data:Int),.int .i64 (chunk:Int),.int .i64 0,.int .u64 ((2 * a+1:Nat):Int),.int .u64 (sm:Int)]):=rfl
 have HAR:Hid (∀w,Below W.heap.size W w→Calls Tryz.prog 47 #[.slice (some ⟨g,0,none⟩) n c,(Hdr.mk 0 0 data chunk 0 (2 * a+1) sm).v] w fun e w'=>e=.returned (.bool true)∧Below w.heap.size w w'):=fun w hw=>by
  have:=rarearight_any g n c ws (Hdr.mk 0 0 data chunk 0 (2 * a+1) sm) w hn (own_keepU' hA hw) q5 q7 q2 q1 (by simp) (by show arAt data 0+arB data * 16≤n;unfold arAt;rw[ha];omega) (by show sm<18446744073709551616;omega)
  rw[show decide (shortC (extendC 0 (arOf ws (Hdr.mk 0 0 data chunk 0 (2 * a+1) sm).data (Hdr.mk 0 0 data chunk 0 (2 * a+1) sm).area))=(Hdr.mk 0 0 data chunk 0 (2 * a+1) sm).sum)=true from decide_eq_true hsm] at this
  exact this
 rw[HV.out] at HAR HRT
 have HOWN:=Hi hA
 have HARS:=Hi (fun w=>rareas_any data w (by omega))
 have HBLK:=Hi (fun w=>rblocks_any n w (by omega))
 obtain ⟨nb,hnb⟩ :∃q,blN n=q:=⟨_,rfl⟩
 have HNB:=Hi hnb
 rw[ha] at HARS
 rw[hnb] at HBLK q17 hbl
 have HQ5:=Hi q5
 have HN:=Hi hn
 have Q12:=Hi q12
 have Q13:=Hi q13
 have Q14:=Hi q14
 have Q15:=Hi q15
 have Q16:=Hi q16
 clear hA hn ha hsm hcw0 hnb hok q5 q8 q11 q9 q10 q12 q13 q14 q15 q16
 go_enter Tryz.func13,Tryz.ntmps13
 go_wp2_with fail
 refine (hfr.out _).mono ?_
 rintro e w1 ⟨rfl,hb1⟩
 go_wp2_with fail
 refine (HRT.out _ hb1).mono ?_
 rintro e w2 ⟨rfl,hb2⟩
 have B2:=hb1.trans (hb2.mono hb1.size)
 have B3:Below W.heap.size W (w2.alloc (.cells #[.int .i64 0,.int .i64 0,.int .i64 (data:Int),.int .i64 (chunk:Int),.int .i64 0,.int .u64 ((2 * a+1:Nat):Int),.int .u64 (sm:Int)] 41)):=B2.alloc B2.size _
 have C3:=Cs.new w2 41 #[.int .i64 0,.int .i64 0,.int .i64 (data:Int),.int .i64 (chunk:Int),.int .i64 0,.int .u64 ((2 * a+1:Nat):Int),.int .u64 (sm:Int)]
 have hWB:W.heap.size≤w2.heap.size:=B2.size
 have y0:(w2.alloc (.cells #[.int .i64 0,.int .i64 0,.int .i64 (data:Int),.int .i64 (chunk:Int),.int .i64 0,.int .u64 ((2 * a+1:Nat):Int),.int .u64 (sm:Int)] 41)).cell? ⟨w2.heap.size,0,none⟩=some (.int .i64 0):=C3.cell 0
 go_wp2_with fail
 refine (HAR.out _ B3).mono ?_
 rintro e w4 ⟨rfl,hb4⟩
 have B4:=B3.trans (hb4.mono B3.size)
 have C4:=C3.below hb4 C3.lt
 have hh4:w2.heap.size<w4.heap.size:=C4.lt
 obtain ⟨HB,hHB⟩ :∃q,w2.heap.size=q:=⟨_,rfl⟩
 rw[hHB] at C4 hh4 hWB ⊢
 have y1:w4.cell? ⟨HB,1,none⟩=some (.int .i64 0):=C4.cell 1
 have y2:w4.cell? ⟨HB,2,none⟩=some (.int .i64 (data:Int)):=C4.cell 2
 have y3:w4.cell? ⟨HB,3,none⟩=some (.int .i64 (chunk:Int)):=C4.cell 3
 have y4:w4.cell? ⟨HB,4,none⟩=some (.int .i64 0):=C4.cell 4
 have y5:w4.cell? ⟨HB,5,none⟩=some (.int .u64 ((2 * a+1:Nat):Int)):=C4.cell 5
 have hmm:=@run_makeMap Tryz.prog
 have e1:IntKind.i64.wrap (2 * (a:Int))=2 * (a:Int):=IntWalk.i64_in _ (by omega)
 have e2:IntKind.i64.wrap (2 * (a:Int)+1)=2 * (a:Int)+1:=IntWalk.i64_in _ (by omega)
 have hBne:¬HB=w4.heap.size:=by omega
 have HHB:=Hi hHB
 clear C3 B3 B2 hb1 hb2 hb4 y0 hHB HRT hfr
 obtain ⟨i0,hi0,hz0,hz1,hz2⟩:=info_parts int_info
 go_wp2_with fail
 refine (HARS.out _).mono ?_
 rintro e w' ⟨rfl,rfl⟩
 go_wp2_with fail
 refine (HBLK.out _).mono ?_
 rintro e w' ⟨rfl,rfl⟩
 have B5:Below W.heap.size W (w4.alloc (.cells #[.slice (some ⟨g,0,none⟩) n c,.int .i64 0,.int .i64 0,.int .i64 (data:Int),.int .i64 (chunk:Int),.int .i64 0,.int .i64 (2 * (a:Int)+2),.int .i64 0,.pointer none,.pointer none,.pointer none,.slice none 0 0,.slice none 0 0,.slice none 0 0,.bool false] 82)):=B4.alloc B4.size _
 have C5:=Cs.new w4 82 #[.slice (some ⟨g,0,none⟩) n c,.int .i64 0,.int .i64 0,.int .i64 (data:Int),.int .i64 (chunk:Int),.int .i64 0,.int .i64 (2 * (a:Int)+2),.int .i64 0,.pointer none,.pointer none,.pointer none,.slice none 0 0,.slice none 0 0,.slice none 0 0,.bool false]
 have b45:Below w4.heap.size w4 (w4.alloc (.cells #[.slice (some ⟨g,0,none⟩) n c,.int .i64 0,.int .i64 0,.int .i64 (data:Int),.int .i64 (chunk:Int),.int .i64 0,.int .i64 (2 * (a:Int)+2),.int .i64 0,.pointer none,.pointer none,.pointer none,.slice none 0 0,.slice none 0 0,.slice none 0 0,.bool false] 82)):=(Below.refl _ w4).alloc (Nat.le_refl _) _
 generalize (w4.alloc (.cells #[.slice (some ⟨g,0,none⟩) n c,.int .i64 0,.int .i64 0,.int .i64 (data:Int),.int .i64 (chunk:Int),.int .i64 0,.int .i64 (2 * (a:Int)+2),.int .i64 0,.pointer none,.pointer none,.pointer none,.slice none 0 0,.slice none 0 0,.slice none 0 0,.bool false] 82))=w5 at *
 obtain ⟨M,hM⟩ :∃q,w4.heap.size=q:=⟨_,rfl⟩
 have CH5:=C4.below b45 C4.lt
 rw[hM] at C5 hh4 hBne ⊢
 have HMM:=Hi hM
 have hM5:=C5.lt
 clear y1 y2 y3 y4 y5 hM
 go_wp2_with (at_make;refine wpList_make_full _ rfl _ _ _ rfl w5.heap.size 3 i0 _ 1 Tryz.underlying22 hi0 hz0 hz1 .i64 .i64 _ _ nb rfl rfl rfl rfl ?_ ?_ ?_ ?_)
 ·rw[hz2];omega
 ·simp only[maxLen];omega
 ·exact Nat.le_refl _
 intro w6 hown6 hg6
 rw[nv_zero,←onesTo_zero] at hown6
 have b56:Below w5.heap.size w5 w6:=(Below.refl _ w5).grown hg6 (Nat.le_refl _) (by intro k hk;cases hk)
 have HO6:=Hi hown6
 have B6:=B5.trans (b56.mono B5.size)
 have hs56:w5.heap.size<w6.heap.size:=own_lt hown6 _ rfl
 clear hown6 hg6
 go_wp2_with fail
 have m1:=Em.made w6
 have m2:=Em.made (w6.alloc (.map #[] 0))
 have bz:∀(w:World) (o:Obj),Below w.heap.size w (w.alloc o):=fun w o=>(Below.refl _ w).alloc (Nat.le_refl _) _
 have z1:(w6.alloc (.map #[] 0)).heap.size=w6.heap.size+1:=by simp
 have z2:((w6.alloc (.map #[] 0)).alloc (.map #[] 0)).heap.size=w6.heap.size+1+1:=by simp
 rw[z1] at m2
 have E1:Em (((w6.alloc (.map #[] 0)).alloc (.map #[] 0)).alloc (.cells #[.slice (some ⟨g,0,none⟩) n c,.int .i64 (2 * (a:Int)+1),.int .i64 (2 * (a:Int)+2),.slice (some ⟨w5.heap.size,0,none⟩) nb nb,.map (some w6.heap.size),.map (some (w6.heap.size+1)),.bool false] 86)) w6.heap.size:=(m1.fr (Fr.of_below (G:=fun _=>False) (bz _ (.map #[] 0))) (fun q=>q)).fr (Fr.of_below (G:=fun _=>False) (bz _ _)) (fun q=>q)
 have E2:Em (((w6.alloc (.map #[] 0)).alloc (.map #[] 0)).alloc (.cells #[.slice (some ⟨g,0,none⟩) n c,.int .i64 (2 * (a:Int)+1),.int .i64 (2 * (a:Int)+2),.slice (some ⟨w5.heap.size,0,none⟩) nb nb,.map (some w6.heap.size),.map (some (w6.heap.size+1)),.bool false] 86)) (w6.heap.size+1):=m2.fr (Fr.of_below (G:=fun _=>False) (bz _ _)) (fun q=>q)
 have CR:=Cs.new ((w6.alloc (.map #[] 0)).alloc (.map #[] 0)) 86 #[.slice (some ⟨g,0,none⟩) n c,.int .i64 (2 * (a:Int)+1),.int .i64 (2 * (a:Int)+2),.slice (some ⟨w5.heap.size,0,none⟩) nb nb,.map (some w6.heap.size),.map (some (w6.heap.size+1)),.bool false]
 rw[z2] at CR
 have b67:Below w6.heap.size w6 (((w6.alloc (.map #[] 0)).alloc (.map #[] 0)).alloc (.cells #[.slice (some ⟨g,0,none⟩) n c,.int .i64 (2 * (a:Int)+1),.int .i64 (2 * (a:Int)+2),.slice (some ⟨w5.heap.size,0,none⟩) nb nb,.map (some w6.heap.size),.map (some (w6.heap.size+1)),.bool false] 86)):=((bz w6 (.map #[] 0)).trans ((bz _ (.map #[] 0)).mono (by simp))).trans ((bz _ _).mono (by simp;omega))
 generalize (((w6.alloc (.map #[] 0)).alloc (.map #[] 0)).alloc (.cells #[.slice (some ⟨g,0,none⟩) n c,.int .i64 (2 * (a:Int)+1),.int .i64 (2 * (a:Int)+2),.slice (some ⟨w5.heap.size,0,none⟩) nb nb,.map (some w6.heap.size),.map (some (w6.heap.size+1)),.bool false] 86))=w7 at *
 obtain ⟨gc,hgc⟩ :∃q,w5.heap.size=q:=⟨_,rfl⟩
 obtain ⟨ms,hms⟩ :∃q,w6.heap.size=q:=⟨_,rfl⟩
 obtain ⟨md,hmd⟩ :∃q,ms+1=q:=⟨_,rfl⟩
 obtain ⟨R,hR⟩ :∃q,md+1=q:=⟨_,rfl⟩
 have B7:=B6.trans (b67.mono B6.size)
 have HO7:=Hi (own_keepU' HO6.out b67)
 have CM7:=(C5.below b56 C5.lt).below b67 (by have:=b56.size;omega)
 have CH7:=(CH5.below b56 CH5.lt).below b67 (by have:=b56.size;have:=CH5.lt;omega)
 rw[hgc] at HO7 CR hs56 hM5 ⊢
 rw[hms] at E1 E2 CR hs56 ⊢
 rw[hmd] at E2 CR ⊢
 rw[hR] at CR ⊢
 have HGC:=Hi hgc
 have HMS:=Hi hms
 have HMD:=Hi hmd
 have HR:=Hi hR
 have o1:HB<M∧M<gc∧gc<ms∧ms<md∧md<R:=by omega
 have hRl:=CR.lt
 have HC7:=Hi CR
 have HE1:=Hi E1
 have HE2:=Hi E2
 have r1:=CR.cell 1
 have r3:=CR.cell 3
 have hRg:¬R=gc:=by omega
 clear m1 m2 bz z1 z2 E1 E2 b67 b56 b45 HO6 B6 B5 C5 C4 CH5 hms hmd hR hgc CR
 go_loopw [10] (fun s10 wr=>∃k:Nat,k≤2 * a+1∧s10=.int .i64 k∧Hid (wr.ownsRow gc 3 1 (.slice (some ⟨gc,0,none⟩) nb nb) nb (nv (onesTo nb k)))∧Hid (Fr (fun j=>j=gc) w7 wr)) (fun s10 _=>2 * a+1 - (intOf s10).toNat)
 case atStart=>exact ⟨0,Nat.zero_le _,rfl,HO7,Fr.refl _ _⟩
 case round=>
  obtain ⟨k,hk,rfl,ho,hf⟩:=hrel
  have u1:=(hf.out.cell (i:=1) hRl hRg).trans r1
  have u3:=(hf.out.cell (i:=3) hRl hRg).trans r3
  by_cases hlt:k<2 * a+1
  ·have hkn:k<nb:=by omega
   have d4:(k:Int)<2 * (a:Int)+1:=by omega
   have hc:=ho.out.cellAt k (by omega)
   rw[nv_at _ _ (by rw[onesTo_len];exact hkn)] at hc
   have hfz:=ho.out.frozenAt k
   have hst:=(ho.out.stored k (.int .i64 ((1:Nat):Int))).1
   rw[nv_set,onesTo_set] at hst
   have HST:=Hi hst
   have HF:=Hi (hf.out.set (b:=gc) (i:=k) (.inl rfl) (.int .i64 1))
   clear hst
   go_wp2_with fail
   go_roundw
   case rel=>exact ⟨k+1,by omega,by go_num,HST,HF⟩
   case measure=>simp[intOf];omega
  ·have hke:k=2 * a+1:=by omega
   subst hke
   have d4:¬((2 * a+1:Nat):Int)<2 * (a:Int)+1:=by omega
   have hl1:((onesTo nb (2 * a+1)).set (2 * a+2) 1).length=nb:=by rw[List.length_set,onesTo_len]
   have hc:=ho.out.cellAt (2 * a+2) (by omega)
   rw[nv_at _ _ (by rw[onesTo_len];omega)] at hc
   have hfz:=ho.out.frozenAt (2 * a+2)
   have hst:=(ho.out.stored (2 * a+2) (.int .i64 ((1:Nat):Int))).1
   rw[nv_set] at hst
   have F8:=Hi (hf.out.set (b:=gc) (i:=2 * a+2) (.inl rfl) (.int .i64 1))
   have d5:2 * (a:Int)+2<(nb:Int):=by omega
   have d6:2 * a+2<nb:=by omega
   have d7:(0:Int)≤2 * (a:Int)+2:=by omega
   obtain ⟨w8,hw8⟩ :∃q,wr.setCell ⟨gc,2 * a+2,none⟩ (.int .i64 1)=q:=⟨_,rfl⟩
   have HST:=Hi (show (wr.setCell ⟨gc,2 * a+2,none⟩ (.int .i64 1)).ownsRow gc 3 1 (.slice (some ⟨gc,0,none⟩) nb nb) nb (nv ((onesTo nb (2 * a+1)).set (2 * a+2) 1)) from hst)
   rw[hw8] at HST F8
   have hHg:¬HB=gc:=by omega
   have CH8:=CH7.fr F8.out hHg
   have v5:w8.cell? ⟨HB,5,none⟩=some (.int .u64 (2 * (a:Int)+1)):=CH8.cell 5
   have v0:w8.cell? ⟨HB,0,none⟩=some (.int .i64 0):=CH8.cell 0
   have CR8:=HC7.out.fr F8.out hRg
   have hWgc:W.heap.size≤gc:=by omega
   have HB8:=Hi (B7.trans (F8.out.below B7.size (fun j hj=>by have:j=gc:=hj;omega)))
   have HO8:=Hi (own_keepU' HOWN.out HB8.out)
   have hmsg:¬ms=gc:=by omega
   have hmdg:¬md=gc:=by omega
   have hMg:¬M=gc:=by omega
   have HE18:=Hi (HE1.out.fr F8.out hmsg)
   have HE28:=Hi (HE2.out.fr F8.out hmdg)
   have CM8:=Hi (CM7.fr F8.out hMg)
   have HCH8:=Hi CH8
   obtain ⟨cs8,hcs8⟩ :∃q,(onesTo nb (2 * a+1)).set (2 * a+2) 1=q:=⟨_,rfl⟩
   have HFIN:Hid (cs8.set (2 * a+1) (cs8[2 * a+1]?.getD 0+1)=onesTo nb (2 * a+3)):=by
    rw[←hcs8]
    exact Hi (onesTo_fin nb (2 * a+1) (by omega))
   have hcl8:∀x∈cs8,x≤1000000:=fun x hx=>by
    rw[←hcs8] at hx
    rcases List.mem_or_eq_of_mem_set hx with q|q
    ·have:=onesTo_le _ _ x q;omega
    ·omega
   rw[hcs8] at HST hl1
   have hTR:=rtree_empty w8 R g n c (2 * a+1) (2 * a+2) gc nb nb ms md (2 * a+1) gc 0 ws cs8 CR8 HN.out HO8.out HQ5.out q7 HST.out hl1 hcl8 HE18.out HE28.out (by omega) (by omega) (Nat.le_refl _) (by omega) (by omega) (by omega) Q12.out Q13.out Q14.out Q15.out (by omega)
   rw[HFIN.out,show ((2 * a+1:Nat):Int)=2 * (a:Int)+1 from rfl] at hTR
   have HTR:=Hi hTR
   have HRg:=Hi hRg
   clear hTR CR8 CH8 hcs8 hcl8 hl1 r1 r3 hmsg hmdg hMg hHg hRg hBne
   have HF8:=Hi F8
   go_wp2_with fail
   refine HTR.out.mono ?_
   rintro e w9 ⟨rfl,hown9,hf9⟩
   have hMn:¬(M=gc∨M=ms∨M=md):=by omega
   have hBn:¬(HB=gc∨HB=ms∨HB=md):=by omega
   have hRn:¬(R=gc∨R=ms∨R=md):=by omega
   have HO9:=Hi hown9
   have HC9:=Hi (CM8.out.fr hf9 hMn)
   have HH9:=Hi (HCH8.out.fr hf9 hBn)
   have HR9:=Hi ((HC7.out.fr HF8.out HRg.out).fr hf9 hRn)
   have hB9:=HB8.out.trans (hf9.below HB8.out.size (fun j hj=>by omega))
   have HB9:=Hi hB9
   have hs89:=hf9.size
   have x5:w9.cell? ⟨HB,5,none⟩=some (.int .u64 (2 * (a:Int)+1)):=HH9.out.cell 5
   have x7:w9.cell? ⟨M,7,none⟩=some (.int .i64 0):=HC9.out.cell 7
   have f7:=HC9.out.free 7
   have hgW:g<W.heap.size:=own_lt HOWN.out g rfl
   have HC10:Hid (Cs (w9.setCell ⟨M,7,none⟩ (.int .i64 (2 * (a:Int)+1))) M 82 #[.slice (some ⟨g,0,none⟩) n c,.int .i64 0,.int .i64 0,.int .i64 (data:Int),.int .i64 (chunk:Int),.int .i64 0,.int .i64 (2 * (a:Int)+2),.int .i64 (2 * (a:Int)+1),.pointer none,.pointer none,.pointer none,.slice none 0 0,.slice none 0 0,.slice none 0 0,.bool false]):=heap_setCell_same w9 M 7 _ _ _ HC9.out
   have fs7:=fr_set w9 M 7 (.int .i64 (2 * (a:Int)+1))
   have HO10:=Hi (own_fr HO9.out fs7 (fun q hq e=>by simp[Value.ownBlock] at hq;omega))
   have HH10:=Hi (HH9.out.fr fs7 (by omega))
   have HR10:=Hi (HR9.out.fr fs7 (by omega))
   have HB10:=Hi (HB9.out.setCell (p:=⟨M,7,none⟩) (by show W.heap.size≤M;omega) (.int .i64 (2 * (a:Int)+1)))
   have hs910:=fs7.size
   clear hown9 hf9 hB9 fs7 hMn hBn hRn
   go_wp2_with fail
   generalize (w9.setCell ⟨M,7,none⟩ (.int .i64 (2 * (a:Int)+1)))=w10 at *
   clear x5 x7 f7
   go_loopw [12] (fun s12 wx=>s12=.int .i64 0∧w10=wx) (fun _ _=>0)
   case atStart=>exact ⟨rfl,rfl⟩
   case round=>
    obtain ⟨rfl,rfl⟩:=hrel
    have r6:=HR10.out.cell 6
    have f6:=HR10.out.free 6
    have fs6:=fr_set w10 R 6 (.bool true)
    have HC11:=Hi (HC10.out.fr fs6 (by omega))
    have HO11:=Hi (own_fr HO10.out fs6 (fun q hq e=>by simp[Value.ownBlock] at hq;omega))
    have HH11:=Hi (HH10.out.fr fs6 (by omega))
    have HR11:Hid (Cs (w10.setCell ⟨R,6,none⟩ (.bool true)) R 86 #[.slice (some ⟨g,0,none⟩) n c,.int .i64 (2 * (a:Int)+1),.int .i64 (2 * (a:Int)+2),.slice (some ⟨gc,0,none⟩) nb nb,.map (some ms),.map (some md),.bool true]):=heap_setCell_same w10 R 6 _ _ _ HR10.out
    have HB11:=Hi (HB10.out.setCell (p:=⟨R,6,none⟩) (by show W.heap.size≤R;omega) (.bool true))
    have hs1011:=fs6.size
    clear fs6
    go_wp2_with fail
    generalize (w10.setCell ⟨R,6,none⟩ (.bool true))=w11 at *
    clear r6 f6
    go_loopw [14] (fun s14 wy=>s14=.int .i64 0∧w11=wy) (fun _ _=>0)
    case atStart=>exact ⟨rfl,rfl⟩
    case round=>
     obtain ⟨rfl,rfl⟩:=hrel
     have y11:=HC11.out.cell 11
     have y12:=HC11.out.cell 12
     have g12:=HC11.out.free 12
     have fs12:=fr_set w11 M 12 (.slice none 0 0)
     have HC12:Hid (Cs (w11.setCell ⟨M,12,none⟩ (.slice none 0 0)) M 82 #[.slice (some ⟨g,0,none⟩) n c,.int .i64 0,.int .i64 0,.int .i64 (data:Int),.int .i64 (chunk:Int),.int .i64 0,.int .i64 (2 * (a:Int)+2),.int .i64 (2 * (a:Int)+1),.pointer none,.pointer none,.pointer none,.slice none 0 0,.slice none 0 0,.slice none 0 0,.bool false]):=heap_setCell_same w11 M 12 _ _ _ HC11.out
     have HO12:=Hi (own_fr HO11.out fs12 (fun q hq e=>by simp[Value.ownBlock] at hq;omega))
     have HH12:=Hi (HH11.out.fr fs12 (by omega))
     have HR12:=Hi (HR11.out.fr fs12 (by omega))
     have HB12:=Hi (HB11.out.setCell (p:=⟨M,12,none⟩) (by show W.heap.size≤M;omega) (.slice none 0 0))
     have hs1112:=fs12.size
     have r3:=HR12.out.cell 3
     have r3b:=HR11.out.cell 3
     have HLD:=Hi (fun w (hw:Below (w11.setCell ⟨M,12,none⟩ (.slice none 0 0)).heap.size (w11.setCell ⟨M,12,none⟩ (.slice none 0 0)) w)=>rload_any24 (some ⟨gc,0,none⟩) nb nb (onesTo nb (2 * a+3)) w (onesTo_len _ _) (Reads.of_own (own_keepU' HO12.out hw)) (by omega) (by omega) (fun x hx=>by have:=onesTo_le _ _ x hx;omega))
     clear fs12 r3
     go_wp2_with fail
     refine (HLD.out _ (Below.refl _ _)).mono ?_
     rintro e w13 ⟨K1,rfl,hm1,hk1,hb13⟩
     have hsz12:(w11.setCell ⟨M,12,none⟩ (.slice none 0 0)).heap.size=w11.heap.size:=by simp
     rw[hsz12] at hk1
     have HC13:=Hi (HC12.out.below hb13 HC12.out.lt)
     have HH13:=Hi (HH12.out.below hb13 HH12.out.lt)
     have HB13:=Hi (HB12.out.trans (hb13.mono HB12.out.size))
     have hs1213:w11.heap.size≤w13.heap.size:=by have:=hb13.size;rw[hsz12] at this;exact this
     have HM13:=Hi hm1
     have HK13:=Hi hk1
     have k1b:=hk1 K1.p (.inl rfl)
     have x8:=HC13.out.cell 8
     have f8:=HC13.out.free 8
     have fs8:=fr_set w13 M 8 (.pointer (some ⟨K1.p,0,none⟩))
     have HC14:Hid (Cs (w13.setCell ⟨M,8,none⟩ (.pointer (some ⟨K1.p,0,none⟩))) M 82 #[.slice (some ⟨g,0,none⟩) n c,.int .i64 0,.int .i64 0,.int .i64 (data:Int),.int .i64 (chunk:Int),.int .i64 0,.int .i64 (2 * (a:Int)+2),.int .i64 (2 * (a:Int)+1),.pointer (some ⟨K1.p,0,none⟩),.pointer none,.pointer none,.slice none 0 0,.slice none 0 0,.slice none 0 0,.bool false]):=heap_setCell_same w13 M 8 _ _ _ HC13.out
     have HH14:=Hi (HH13.out.fr fs8 (by omega))
     have HB14:=Hi (HB13.out.setCell (p:=⟨M,8,none⟩) (by show W.heap.size≤M;omega) (.pointer (some ⟨K1.p,0,none⟩)))
     have HF14:=Hi fs8
     have hs1314:=fs8.size
     clear hm1 hk1 hb13 fs8 hsz12 y11 y12 g12 r3b
     go_wp2_with fail
     generalize (w13.setCell ⟨M,8,none⟩ (.pointer (some ⟨K1.p,0,none⟩)))=w14 at *
     clear x8 f8
     have z2:w14.cell? ⟨HB,2,none⟩=some (.int .i64 (data:Int)):=HH14.out.cell 2
     have z4:w14.cell? ⟨HB,4,none⟩=some (.int .i64 0):=HH14.out.cell 4
     go_cut [] (fun wx=>∃K2:MP,Hid (Cs wx M 82 #[.slice (some ⟨g,0,none⟩) n c,.int .i64 0,.int .i64 0,.int .i64 (data:Int),.int .i64 (chunk:Int),.int .i64 0,.int .i64 (2 * (a:Int)+2),.int .i64 (2 * (a:Int)+1),.pointer (some ⟨K1.p,0,none⟩),.pointer (some ⟨K2.p,0,none⟩),.pointer none,.slice none 0 0,.slice none 0 0,.slice none 0 0,.bool false])∧Hid (MapIn wx K2 ⟨List.replicate data 0,List.replicate data 0⟩)∧Hid (∀j,K2.has j→w14.heap.size≤j∧j<wx.heap.size)∧Hid (Fr (fun j=>j=M) w14 wx))
     case first=>
      have hcap:=own_cap HOWN.out
      have hfit:arAt data 0+arB data * 16≤n:=by unfold arAt;rw[HA.out];omega
      have hao:=fun w=>rareaof_any ⟨g,0,none⟩ n c data 0 w q2 q1 (by omega) hfit hcap q7
      have hrd:∀w,Below w14.heap.size w14 w→Reads w (some ⟨g,arAt data 0,none⟩) (uv (arOf ws data 0)):=fun w hw=>arOf_reads (own_keepU' HOWN.out (HB14.out.trans (hw.mono HB14.out.size))) HN.out hfit
      have hal:(arOf ws data 0).length=arB data * 16:=arOf_len (by rw[HN.out];exact hfit)
      have hst:=fun w (hw:Below w14.heap.size w14 w)=>rstored_any (some ⟨g,arAt data 0,none⟩) (arB data * 16) (c - arAt data 0) data (arOf ws data 0) w hal (hrd w hw) (arOf_w HQ5.out _ _) q2 (Nat.le_refl _) (by omega)
      rw[Q16.out] at hst
      rw[Addr.add_lit,Nat.zero_add] at hao
      have hat:arAt data 0=16:=by unfold arAt;omega
      rw[hat,HA.out] at hao
      rw[hat,HA.out] at hst
      have HAO:=Hi hao
      have HST:=Hi hst
      have HC0:=Hi (HC14.out)
      have hMl:=HC14.out.lt
      clear hao hat hcap hrd hst hal hfit
      have hHBl:HB<w14.heap.size:=HH14.out.lt
      have hnv0:∀x∈List.replicate data 0,x≤65535:=fun x hx=>by have:=List.eq_of_mem_replicate hx;omega
      have HNV:=Hi hnv0
      clear hnv0
      go_region_held3 (fun w'=>w'.cell? ⟨HB,2,none⟩=some (.int .i64 (data:Int))∧w'.cell? ⟨HB,4,none⟩=some (.int .i64 0)) (first|exact ⟨z2,z4⟩|exact ⟨z2b,z4b⟩|exact ⟨z2c,z4c⟩|exact ⟨z2d,z4d⟩)
       ((first
        |(go_at_call 16;refine (HAO.out _).mono ?_;rintro e w' ⟨rfl,rfl⟩)
        |(go_at_call 19;refine (HST.out _ (Below.refl _ w14).drew).mono ?_;rintro e w15 ⟨v15,rfl,ho15,hb15⟩;obtain ⟨g5,c5,rfl,hg5,hlt5⟩:=ho15.form q1;have HO15:=Hi ho15;have HB15:=Hi hb15;have z2b:w15.cell? ⟨HB,2,none⟩=some (.int .i64 (data:Int)):=(hb15.cell (p:=⟨HB,2,none⟩) hHBl).trans z2;have z4b:w15.cell? ⟨HB,4,none⟩=some (.int .i64 0):=(hb15.cell (p:=⟨HB,4,none⟩) hHBl).trans z4;clear ho15 hb15)
        |(go_at_call 53;refine (rload_any24 _ data _ (List.replicate data 0) _ (by simp) (Reads.of_own HO15.out) q1 q2 HNV.out).mono ?_;rintro e w16 ⟨K2,rfl,hm16,hk16,hb16⟩;have hbb:Below w14.heap.size w14 w16:=((Below.refl _ w14).drew.trans HB15.out).trans (hb16.mono HB15.out.size);have z2c:w16.cell? ⟨HB,2,none⟩=some (.int .i64 (data:Int)):=(hbb.cell (p:=⟨HB,2,none⟩) hHBl).trans z2;have z4c:w16.cell? ⟨HB,4,none⟩=some (.int .i64 0):=(hbb.cell (p:=⟨HB,4,none⟩) hHBl).trans z4;have HC16:=Hi (HC14.out.below hbb hMl);have y9:=HC16.out.cell 9;have g9:=HC16.out.free 9;have HH16:=(HH14.out.below hbb hHBl).fr (fr_set w16 M 9 (.pointer (some ⟨K2.p,0,none⟩))) (by omega);have z2d:(w16.setCell ⟨M,9,none⟩ (.pointer (some ⟨K2.p,0,none⟩))).cell? ⟨HB,2,none⟩=some (.int .i64 (data:Int)):=HH16.cell 2;have z4d:(w16.setCell ⟨M,9,none⟩ (.pointer (some ⟨K2.p,0,none⟩))).cell? ⟨HB,4,none⟩=some (.int .i64 0):=HH16.cell 4;clear HH16;have HM16:=Hi hm16;have HK16:=Hi hk16;have HBB:=Hi hbb;have hs15:=HB15.out.size;clear hm16 hk16 hb16 hbb)))
      go_wp2_with fail
      go_meet
      refine ⟨K2,heap_setCell_same w16 M 9 _ _ _ HC16.out,HM16.out.fr (fr_set w16 M 9 _) (fun j hj e=>?_),fun j hj=>?_,?_⟩
      ·have:=HK16.out j hj
       have:w14.heap.size≤w15.heap.size:=hs15
       omega
      ·have h1:=HK16.out j hj
       have h2:w14.heap.size≤w15.heap.size:=hs15
       have h3:=(fr_set w16 M 9 (.pointer (some ⟨K2.p,0,none⟩))).size
       omega
      ·exact (Fr.of_below HBB.out).trans (fr_set w16 M 9 _)
     case rest=>
      obtain ⟨K2,hC,hM2,hK2,hF⟩:=hcut
      have x8:=hC.out.cell 8
      have x9:=hC.out.cell 9
      have hMc:=hC.out.lt
      have hsc:=hF.out.size
      have e5:IntKind.i64.wrap (0+1)=1:=by decide
      have HNW:=Hi (fun w=>rnew26_any w ⟨g,0,none⟩ n c K1.p K2.p 1)
      go_wp2_with fail
      refine wp_region_scr [(true,0),(true,1),(true,2),(true,3),(true,4),(true,5),(true,6),(true,7),(true,8),(true,9),(true,10),(true,11),(false,12)] [13,14,15] 13 (by kernel_rfl) (by decide +kernel) (fun w=>w.cell? ⟨M,8,none⟩=some (.pointer (some ⟨K1.p,0,none⟩))∧w.cell? ⟨M,9,none⟩=some (.pointer (some ⟨K2.p,0,none⟩))) ⟨x8,x9⟩ ?_
      simp only[pickS,pickL,List.getElem?_toArray,List.getElem?_cons_zero,List.getElem?_cons_succ]
      iterate 12
       refine ⟨?_,Or.inl ⟨by rfl,fun W' hS'=>?_⟩,fun _ _ _ h=>h,?_⟩
       rotate_left
       ·obtain ⟨y8,y9⟩:=hS'
        go_simp
        with_reducible rfl
       simp only[Act.put,List.setIfInBounds_toArray,List.set_cons_zero,List.set_cons_succ]
      refine wpScr_step (fun K hK=>?_)
      go_simp
      go_at_call 54
      refine (HNW.out _).mono ?_
      rintro e w17 ⟨rfl,hw17⟩
      have hb17:Below wc.heap.size wc w17:=by
       rw[←hw17]
       exact (((Below.refl _ wc).drew.alloc (Nat.le_refl _) _).alloc (by show wc.heap.size≤(wc.drew.alloc _).heap.size;simp) _)
      have hem:Em w17 wc.heap.size:=by
       rw[←hw17]
       exact (Em.made wc.drew).fr (Fr.of_below (G:=fun _=>False) ((Below.refl _ _).alloc (Nat.le_refl _) _)) (fun q=>q)
      have hcs:Cs w17 (wc.heap.size+1) 152 #[.slice (some ⟨g,0,none⟩) n c,.pointer (some ⟨K1.p,0,none⟩),.pointer (some ⟨K2.p,0,none⟩),.int .i64 ((1:Nat):Int),.map (some wc.heap.size)]:=by
       rw[←hw17]
       have:=Cs.new (wc.drew.alloc (.map #[] 0)) 152 #[.slice (some ⟨g,0,none⟩) n c,.pointer (some ⟨K1.p,0,none⟩),.pointer (some ⟨K2.p,0,none⟩),.int .i64 ((1:Nat):Int),.map (some wc.heap.size)]
       rw[show (wc.drew.alloc (.map #[] 0)).heap.size=wc.heap.size+1 by simp] at this
       exact this
      refine hK _ _ ⟨(hb17.cell (p:=⟨M,8,none⟩) hMc).trans x8,(hb17.cell (p:=⟨M,9,none⟩) hMc).trans x9⟩ ?_
      clear hK K hw17
      have HC17:=Hi (hC.out.below hb17 hMc)
      have y10:=HC17.out.cell 10
      have g10:=HC17.out.free 10
      have HB17:=Hi hb17
      have HEM:=Hi hem
      have HCS:=Hi hcs
      clear hb17 hem hcs x8 x9
      refine wpSeqL_list _ _ _ (by simp) ?_
      simp only[List.map_cons,List.map_nil]
      go_wp2_with fail
      go_ret2
      have e1:=HN.out
      subst e1
      have e2:=HA.out
      subst e2
      have e3:=HNB.out
      subst e3
      have hf10:=fr_set w17 M 10 (.pointer (some ⟨wc.heap.size+1,0,none⟩))
      have hb17s:=HB17.out.size
      have hB18:Below W.heap.size W (w17.setCell ⟨M,10,none⟩ (.pointer (some ⟨wc.heap.size+1,0,none⟩))):=(((HB14.out.trans (hF.out.below HB14.out.size (fun j hj=>by have:j=M:=hj;omega))).trans (HB17.out.mono (Nat.le_trans HB14.out.size hsc))).setCell (p:=⟨M,10,none⟩) (by show W.heap.size≤M;omega) _)
      refine ⟨M,⟨wc.heap.size+1,K1,K2,g,c,wc.heap.size⟩,rfl,rfl,rfl,by omega,?_,hB18⟩
      have hMl11:M<w11.heap.size:=HC11.out.lt
      have hMl14:M<w14.heap.size:=HC14.out.lt
      have hK1M:∀j,K1.has j→¬j=M:=fun j hj=>by have:=HK13.out j hj;omega
      have hK2M:∀j,K2.has j→¬j=M:=fun j hj=>by have:=hK2.out j hj;omega
      exact newMt_in _ W.heap.size g c data chunk M wc.heap.size w14.heap.size K1 K2 ws (heap_setCell_same w17 M 10 _ _ _ HC17.out) (HCS.out.fr hf10 (by omega))
       (((((HM13.out.fr HF14.out hK1M).fr hF.out hK1M).keep HB17.out).fr hf10 hK1M)) ((hM2.out.keep HB17.out).fr hf10 hK2M) (HEM.out.fr hf10 (by omega)) (own_keepU' HOWN.out hB18) HQ5.out q7 hgW (by omega)
       (fun j hj=>by have:=HK13.out j hj;omega) (fun j hj=>by have:=hK2.out j hj;omega) (by omega)
end
end Go.Proofs.YtplhdjdkobddnaaGreat
