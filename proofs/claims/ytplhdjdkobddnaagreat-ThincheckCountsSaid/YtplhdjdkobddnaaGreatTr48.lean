/- Kd Made ThW -/
import Derived.Test.YtplhdjdkobddnaaGreatTr47
import Derived.Test.YtplhdjdkobddnaaGreatTr46
set_option linter.unusedVariables false
set_option maxRecDepth 100000
set_option maxHeartbeats 40000000
namespace Go.Proofs.YtplhdjdkobddnaaGreat
section
open Go.RowKit
theorem gb_trans {g:Nat} {A B C:World} (h:A.grownBy B (some g)) (k:B.grownBy C (some g)):A.grownBy C (some g):=
 ⟨k.os.trans h.os,k.tape.trans h.tape,k.output.trans h.output,Nat.le_trans h.size k.size,fun j hj hne=>(k.block j (Nat.lt_of_lt_of_le hj h.size) hne).trans (h.block j hj hne)⟩
theorem gb_below {g:Nat} {A B C:World} (h:A.grownBy B (some g)) (k:Below B.heap.size B C):A.grownBy C (some g):=
 ⟨k.os.trans h.os,k.tape.trans h.tape,k.output.trans h.output,Nat.le_trans h.size k.size,fun j hj hne=>(k.block j (Nat.lt_of_lt_of_le hj h.size)).trans (h.block j hj hne)⟩
theorem gb_refl (g:Nat) (A:World):A.grownBy A (some g):=World.grownBy.refl A _
theorem SrcAt.alloc {W:World} {g:Nat} (h:SrcAt W g) (o:Obj):SrcAt (W.alloc o) g:=h.below (B:=W.heap.size) ((Below.refl _ W).alloc (Nat.le_refl _) o) h.lt
theorem SrcAt.set {W:World} {g b i:Nat} (h:SrcAt W g) (hb:g<b) (u:Value):SrcAt (W.setCell ⟨b,i,none⟩ u) g:=h.below (B:=b) ((Below.refl _ W).setCell (p:=⟨b,i,none⟩) (Nat.le_refl _) u) hb
theorem SrcAt.keep {W W':World} {g:Nat} (h:SrcAt W g) (hb:Below W.heap.size W W'):SrcAt W' g:=h.below hb h.lt
theorem pick_any (g b n:Nat) (zs:List Int) (W:World) (h:SrcAt W g) (hn:zs.length=n) (h1:1≤n) (hlen:n≤1000) (hb:Cs W b 3 (iv zs).toArray) (hne:b≠g) :
  Calls Tryz.prog 34 #[.pointer (some ⟨g,0,none⟩),.slice (some ⟨b,0,none⟩) n n] W fun e W'=>∃r:Int,e=.returned (.int .i64 r)∧r∈zs∧SrcAt W' g∧W.grownBy W' (some g):=by
 have HN:=Hi hn
 clear hn
 go_enter Tryz.func34,Tryz.ntmps34
 go_wp2_with fail
 refine (n_any g (n:Int) W h (by omega) (by omega)).mono ?_
 rintro e W2 ⟨r,rfl,hr1,hr2,hs,hg⟩
 obtain ⟨j,rfl⟩ :∃j:Nat,r=(j:Int):=⟨r.toNat,by omega⟩
 have hj:j<n:=by omega
 have hc:=(hb.grown hg (by simpa using hne)).cell j
 rw[List.getElem?_toArray,iv_at zs j (by rw[HN.out];exact hj)] at hc
 have hmem:zs[j]?.getD 0∈zs:=by
  rw[List.getElem?_eq_getElem (by rw[HN.out];exact hj)]
  exact List.getElem_mem _
 generalize zs[j]?.getD 0=x at hc hmem
 go_wp2_with fail
 go_ret
 exact ⟨x,rfl,hmem,hs,hg⟩
theorem gb_low {g:Nat} {A B C:World} (h:A.grownBy B (some g)) (k:Below A.heap.size B C):A.grownBy C (some g):=
 ⟨k.os.trans h.os,k.tape.trans h.tape,k.output.trans h.output,Nat.le_trans h.size k.size,fun j hj hne=>(k.block j hj).trans (h.block j hj hne)⟩
theorem gb_fr {g:Nat} {A B:World} (h:A.grownBy B (some g)):Fr (fun j=>j=g) A B:=
 ⟨h.os,h.tape,h.output,h.size,fun j hj hne=>h.block j hj (by simpa using hne)⟩
end
section
open Go.RowKit
attribute [local go_sem] Oper.semAt_some
def MadeI (W wr:World) (s0 gw c M:Nat) (m:Mt) (k:Nat):Prop:=SrcAt wr s0∧W.grownBy wr (some s0)∧MtW wr W.heap.size gw c M m∧MtY m k∧(k=0→m.done=false∧m.area=0)
section
variable {W wr w':World} {s0 gw c M k:Nat} {m m':Mt}
theorem MadeI.src (h:MadeI W wr s0 gw c M m k) (h0:s0<W.heap.size) (hs:SrcAt w' s0) (hg:wr.grownBy w' (some s0)):MadeI W w' s0 gw c M m k:=
 ⟨hs,gb_trans h.2.1 hg,h.2.2.1.fr (gb_fr hg) (fun j hj=>by omega),h.2.2.2⟩
theorem MadeI.op (h:MadeI W wr s0 gw c M m k) (h0:s0<W.heap.size) (hm:MtW w' W.heap.size gw c M m') {k':Nat} (hy:MtY m' k') (hb:Below W.heap.size wr w') (hk:k'≠0:=by omega):MadeI W w' s0 gw c M m' k':=
 ⟨h.1.below hb h0,gb_low h.2.1 hb,hm,hy,fun q=>absurd q hk⟩
end
theorem made29_any (W:World) (s0 steps:Nat) (hs:SrcAt W s0) (hst:steps≤59) :
  Calls Tryz.prog 9 #[.pointer (some ⟨s0,0,none⟩),.int .i64 (steps:Int)] W fun e w'=>∃(gw c M:Nat) (m:Mt),e=.returned (.slice (some ⟨gw,0,none⟩) m.ws.length c)∧W.heap.size≤gw∧MtW w' W.heap.size gw c M m∧MtY m 60∧Cmd m∧SrcAt w' s0∧W.grownBy w' (some s0)∧(steps=0→m.area=0):=by
 have h0:s0<W.heap.size:=hs.lt
 have HS:=Hi hs
 obtain ⟨i0,hi0,hz0,hz1,hz2⟩:=info_parts u64_info
 go_enter Tryz.func9,Tryz.ntmps9
 go_wp2_with fail
 have b1:Below W.heap.size W (W.alloc (.cells #[.int .i64 4,.int .i64 12,.int .i64 70] 3)):=(Below.refl _ W).alloc (Nat.le_refl _) _
 have hz:(W.alloc (.cells #[.int .i64 4,.int .i64 12,.int .i64 70] 3)).heap.size=W.heap.size+1:=by simp
 refine (pick_any s0 W.heap.size 3 [4,12,70] _ (HS.out.below b1 h0) rfl (by omega) (by omega) (Cs.new W _ _) (by omega)).mono ?_
 rintro e w2 ⟨dI,rfl,hdm,hs2,hg2⟩
 obtain ⟨data,rfl⟩ :∃d:Nat,dI=(d:Int):=⟨dI.toNat,by simp at hdm;omega⟩
 have hdat:data=4∨data=12∨data=70:=by simp at hdm;omega
 have hB2:W.grownBy w2 (some s0):=gb_trans (gb_below (gb_refl s0 W) b1) hg2
 have hS2:=Hi hs2
 have HG2:=Hi hB2
 have hzw2:W.heap.size+1≤w2.heap.size:=by have:=hg2.size;rw[hz] at this;exact this
 have HSZ:=Hi (fun w=>rsize27_any (data:Int) w)
 have hszv:szM (data:Int)=(2 * (arB data:Int)+49) * 16:=by unfold szM;rw[if_neg (by omega),Int.toNat_natCast]
 rw[hszv] at HSZ
 obtain ⟨a,ha⟩ :∃a,arB data=a:=⟨_,rfl⟩
 have haa:a=1∨a=2:=by rw[←ha];unfold arB;omega
 have HA:=Hi ha
 rw[ha] at HSZ
 clear hg2 hs2 hB2 hdm hszv ha b1 hz
 go_wp2_with fail
 refine (HSZ.out _).mono ?_
 rintro e w3 ⟨rfl,rfl⟩
 go_wp2_with fail
 have b3:Below w2.heap.size w2 (w2.alloc (.cells #[.int .i64 0,.int .i64 64,.int .i64 600] 3)):=(Below.refl _ w2).alloc (Nat.le_refl _) _
 have hz:(w2.alloc (.cells #[.int .i64 0,.int .i64 64,.int .i64 600] 3)).heap.size=w2.heap.size+1:=by simp
 refine (pick_any s0 w2.heap.size 3 [0,64,600] _ (hS2.out.keep b3) rfl (by omega) (by omega) (Cs.new w2 _ _) (by omega)).mono ?_
 rintro e w4 ⟨mI,rfl,hmm,hs4,hg4⟩
 obtain ⟨mo,rfl⟩ :∃d:Nat,mI=(d:Int):=⟨mI.toNat,by simp at hmm;omega⟩
 have hmo:mo≤600:=by simp at hmm;omega
 have HG4:=Hi (gb_trans (gb_below HG2.out b3) hg4)
 have HS4:=Hi hs4
 have hz4:W.heap.size+1≤w4.heap.size:=by have:=hg4.size;rw[hz] at this;omega
 obtain ⟨n,hn⟩ :∃n,(2 * a+49) * 16+mo=n:=⟨_,rfl⟩
 have hnn:n≤2000∧(2 * a+49) * 16≤n:=by omega
 have e1:IntKind.i64.wrap ((2 * (a:Int)+49) * 16+(mo:Int))=(n:Int):=by rw[IntWalk.i64_in _ (by omega)];omega
 clear hmm hs4 hg4 b3 hz hn
 go_wp2_with (at_make;refine wpList_make_full _ rfl _ _ _ rfl w4.heap.size 39 i0 _ 1 Tryz.underlying27 hi0 hz0 hz1 .i64 .i64 _ _ n rfl rfl rfl rfl ?_ ?_ ?_ ?_)
 ·rw[hz2];omega
 ·simp only[maxLen];omega
 ·exact Nat.le_refl _
 intro w5 hown hg5
 rw[replicate_uvB] at hown
 have hb5:Below w4.heap.size w4 w5:=(Below.refl _ w4).grown hg5 (Nat.le_refl _) (by intro k hk;cases hk)
 have HG5:=Hi (gb_below HG4.out hb5)
 have HS5:=Hi (HS4.out.keep hb5)
 have HO5:=Hi (own_lower hown (Nat.zero_le _))
 have hz5:w4.heap.size<w5.heap.size:=own_lt hown _ rfl
 clear hown hg5 hb5 e1
 go_wp2_with fail
 refine (range_any s0 1 4 _ HS5.out (by omega) (by omega) (by omega)).mono ?_
 rintro e w6 ⟨cI,rfl,hc1,hc2,hs6,hg6⟩
 obtain ⟨ck,rfl⟩ :∃d:Nat,cI=(d:Int):=⟨cI.toNat,by omega⟩
 have HG6:=Hi (gb_trans HG5.out hg6)
 have HS6:=Hi hs6
 have hz6:=hg6.size
 have HO6:=Hi (own_fr HO5.out (gb_fr hg6) (fun q hq e=>by simp[Value.ownBlock] at hq;omega))
 have hr64:W64 (List.replicate n 0):=fun x hx=>by have:=List.eq_of_mem_replicate hx;omega
 have hrl:(List.replicate n 0).length=n:=List.length_replicate
 have HFM:=Hi (rformat27_any w4.heap.size n n data ck (List.replicate n 0) w6 hrl HO6.out (by omega) (by omega) (by omega) (by omega) (by omega) (by rw[HA.out];omega))
 obtain ⟨fn1,fn2,fn3⟩:=fm_new (chunk:=ck) hr64 (show 1≤data by omega) (by omega) (by omega) (by omega) (by rw[HA.out,hrl];omega) (by rw[hrl];omega)
 have fl:(fmW (List.replicate n 0) data ck).length=n:=(fmW_len _ _ _).trans hrl
 have fok:=new_ok fn1 fn2 fn3 (by rw[fl];omega)
 obtain ⟨fw,hfw⟩ :∃q,fmW (List.replicate n 0) data ck=q:=⟨_,rfl⟩
 rw[hfw] at HFM fn1 fl fok
 have HNW:=Hi fn1
 have HFL:=Hi fl
 have HOK:=Hi fok
 clear hs6 hg6 fn1 fn2 fn3 fl fok hfw hr64 hrl
 go_wp2_with fail
 refine HFM.out.mono ?_
 rintro e w7 ⟨rfl,ho7,hf7⟩
 have hb7:Below (W.heap.size+1) w6 w7:=hf7.below (by omega) (fun j hj=>by have:j=w4.heap.size:=hj;omega)
 have HG7:=Hi (gb_low HG6.out ⟨hb7.os,hb7.tape,hb7.output,hb7.size,fun j hj=>hb7.block j (by omega)⟩)
 have HS7:=Hi (HS6.out.below hb7 (by omega))
 have hz7:=hf7.size
 have HOP:=Hi (ropen27_new w7 w4.heap.size n data ck fw (by rw[HFL.out];exact ho7) HNW.out)
 rw[HFL.out] at HOP
 clear ho7 hf7 hb7
 go_wp2_with fail
 refine HOP.out.mono ?_
 rintro e w8 ⟨M,P,rfl,p1,p2,hM,hin,hb8⟩
 have hI8:MadeI W w8 s0 w4.heap.size n M (Mt.new fw data ck) 0:=by
  refine ⟨HS7.out.keep hb8,gb_below HG7.out hb8,⟨⟨P,p1,p2,hin.wide (fun j hj _=>?_) (fun j hj=>?_) (fun q=>q.2 rfl)⟩,by omega,HFL.out,by show data≤128;omega⟩,HOK.out,fun _=>⟨rfl,rfl⟩⟩
  ·rcases hj with q|q
   ·exact ⟨by omega,by omega⟩
   ·exact ⟨by omega,q.2⟩
  ·rcases hin.st.inF j hj with q|q
   ·exact ⟨by omega,by omega⟩
   ·exact ⟨by omega,q.2⟩
 have HI8:=Hi hI8
 clear hin hb8 hI8 p1 p2
 obtain ⟨gw,hgw⟩ :∃q,w4.heap.size=q:=⟨_,rfl⟩
 have hgW:W.heap.size≤gw:=by omega
 rw[hgw] at HI8 ⊢
 clear hzw2 hz4 hz5 hz6 hz7 hgw hM
 go_wp2_with fail
 go_loopw [9,10,11,12,13,14,15] (fun s9 _ _ _ _ _ _ wr=>∃(k:Nat) (m:Mt),k≤steps∧s9=.int .i64 k∧Hid (MadeI W wr s0 gw n M m k)) (fun s9 _ _ _ _ _ _ _=>steps - (intOf s9).toNat)
 case atStart=>exact ⟨0,_,Nat.zero_le _,rfl,HI8⟩
 case round=>
  obtain ⟨k,m,hk,rfl,hI⟩:=hrel
  by_cases hlt:k<steps
  ·have hki:(k:Int)<(steps:Int):=by omega
   go_wp2_with fail
   refine (range_any s0 1 4 _ hI.out.1 (by omega) (by omega) (by omega)).mono ?_
   rintro e wa ⟨iI,rfl,hi1,hi2,hsa,hga⟩
   obtain ⟨id,rfl⟩ :∃d:Nat,iI=(d:Int):=⟨iI.toNat,by omega⟩
   have HIa:=Hi (hI.out.src h0 hsa hga)
   clear hsa hga
   go_wp2_with fail
   refine (range_any s0 1 4 _ HIa.out.1 (by omega) (by omega) (by omega)).mono ?_
   rintro e wb ⟨oI,rfl,ho1,ho2,hsb,hgb⟩
   obtain ⟨other,rfl⟩ :∃d:Nat,oI=(d:Int):=⟨oI.toNat,by omega⟩
   have HIb:=Hi (HIa.out.src h0 hsb hgb)
   clear hsb hgb
   go_wp2_with fail
   refine (n_any s0 30 _ HIb.out.1 (by omega) (by omega)).mono ?_
   rintro e wc ⟨bI,rfl,hb1,hb2,hsc,hgc⟩
   obtain ⟨b,rfl⟩ :∃d:Nat,bI=(d:Int):=⟨bI.toNat,by omega⟩
   have HIc:=Hi (HIb.out.src h0 hsc hgc)
   clear hsc hgc
   go_wp2_with fail
   refine (n_any s0 16 _ HIc.out.1 (by omega) (by omega)).mono ?_
   rintro e wd ⟨cI,rfl,hc1,hc2,hsd,hgd⟩
   obtain ⟨cc,rfl⟩ :∃d:Nat,cI=(d:Int):=⟨cI.toNat,by omega⟩
   have HId:=Hi (HIc.out.src h0 hsd hgd)
   have hN:k+1≤59:=by omega
   have hid1:1≤id∧id≤4:=by omega
   have hot1:1≤other∧other≤4:=by omega
   clear hsd hgd hI HIa HIb HIc
   by_cases k1:cc<2
   ·have t1:(cc:Int)<2:=by omega
    go_wp2_with fail
    refine (step_create HId.out.2.2.1 HId.out.2.2.2.1 hN id hid1.1 hid1.2).mono ?_
    rintro e we ⟨v,m',rfl,q1,q2,q3⟩
    have HIe:=Hi (HId.out.op h0 q1 q2 q3)
    clear q1 q2 q3
    go_wp2_with fail
    go_roundw
    case rel=>exact ⟨k+1,m',by omega,by go_num,HIe⟩
    case measure=>simp[intOf];omega
   ·have t1:¬(cc:Int)<2:=by omega
    by_cases k2:cc<4
    ·have t2:(cc:Int)<4:=by omega
     go_wp2_with fail
     refine (step_snap HId.out.2.2.1 HId.out.2.2.2.1 hN id other hid1.1 hid1.2 hot1.2).mono ?_
     rintro e we ⟨v,m',rfl,q1,q2,q3⟩
     have HIe:=Hi (HId.out.op h0 q1 q2 q3)
     clear q1 q2 q3
     go_wp2_with fail
     go_roundw
     case rel=>exact ⟨k+1,m',by omega,by go_num,HIe⟩
     case measure=>simp[intOf];omega
    ·have t2:¬(cc:Int)<4:=by omega
     by_cases k3:cc=4
     ·have t3:((cc:Int) == 4)=true:=by simp;omega
      go_wp2_with fail
      refine (step_delete HId.out.2.2.1 HId.out.2.2.2.1 hN id hid1.2).mono ?_
      rintro e we ⟨v,m',rfl,q1,q2,q3⟩
      have HIe:=Hi (HId.out.op h0 q1 q2 q3)
      clear q1 q2 q3
      go_wp2_with fail
      go_roundw
      case rel=>exact ⟨k+1,m',by omega,by go_num,HIe⟩
      case measure=>simp[intOf];omega
     ·have t3:((cc:Int) == 4)=false:=by simp;omega
      by_cases k4:cc<13
      ·have t4:(cc:Int)<13:=by omega
       go_wp2_with fail
       refine (step_alloc HId.out.2.2.1 HId.out.2.2.2.1 hN).mono ?_
       rintro e we ⟨d,v,m',rfl,q1,q2,q3⟩
       rcases q3 with ⟨rfl,q3⟩| ⟨rfl,q3,q4,q5,q6,q7,q8,q9⟩
       ·have HIe:=Hi (HId.out.op h0 q1 (q3.up (Nat.le_succ _) (by omega)) q2)
        clear q1 q2 q3
        go_wp2_with fail
        go_roundw
        case rel=>exact ⟨k+1,m',by omega,by go_num,HIe⟩
        case measure=>simp[intOf];omega
       ·have HMP:=Hi (step_map (N:=k) q1 q5 q6 q7 q8 q9 hN id b d hid1.1 hid1.2 (by omega) q4 q3)
        have HQ2:=Hi q2
        clear q1 q2 q3 q4 q5 q6 q7 q8 q9
        go_wp2_with fail
        refine HMP.out.mono ?_
        rintro e wf ⟨v,m2,rfl,r1,r2,r3,r4⟩
        have hbb:Below W.heap.size we wf:=r2
        have HIf:=Hi ((HId.out.op h0 r1 r3 (HQ2.out.trans r2)))
        by_cases hv:v=0
        ·have t5:(v != 0)=false:=by simp[hv]
         clear r1 r2 r3 r4 hbb
         go_wp2_with fail
         go_roundw
         case rel=>exact ⟨k+1,m2,by omega,by go_num,HIf⟩
         case measure=>simp[intOf];omega
        ·have t5:(v != 0)=true:=by simp[hv]
         have HRL:=Hi (step_release r1 r3 d (r4 hv).2 (r4 hv).1)
         clear r1 r2 r3 r4 hbb
         go_wp2_with fail
         refine HRL.out.mono ?_
         rintro e wg ⟨v2,m3,rfl,s1,s2,s3⟩
         have HIg:=Hi (HIf.out.op h0 s1 s2 s3)
         clear s1 s2 s3
         go_wp2_with fail
         go_roundw
         case rel=>exact ⟨k+1,m3,by omega,by go_num,HIg⟩
         case measure=>simp[intOf];omega
      ·have t4:¬(cc:Int)<13:=by omega
       by_cases k5:cc=13
       ·have t5:((cc:Int) == 13)=true:=by simp;omega
        go_wp2_with fail
        refine (step_unmap HId.out.2.2.1 HId.out.2.2.2.1 hN id b hid1.1 hid1.2 (by omega)).mono ?_
        rintro e we ⟨v,m',rfl,q1,q2,q3⟩
        have HIe:=Hi (HId.out.op h0 q1 q2 q3)
        clear q1 q2 q3
        go_wp2_with fail
        go_roundw
        case rel=>exact ⟨k+1,m',by omega,by go_num,HIe⟩
        case measure=>simp[intOf];omega
       ·have t5:((cc:Int) == 13)=false:=by simp;omega
        go_wp2_with fail
        refine (step_commit HId.out.2.2.1 HId.out.2.2.2.1 (by omega)).mono ?_
        rintro e we ⟨v,m',rfl,q1,q2,-,q3,-⟩
        have HIe:=Hi (HId.out.op h0 q1 q2 q3)
        clear q1 q2 q3
        go_wp2_with fail
        go_roundw
        case rel=>exact ⟨k+1,m',by omega,by go_num,HIe⟩
        case measure=>simp[intOf];omega
  ·have hki:¬(k:Int)<(steps:Int):=by omega
   go_wp2_with fail
   refine (step_commit hI.out.2.2.1 hI.out.2.2.2.1 (by omega)).mono ?_
   rintro e we ⟨v,m',rfl,q1,q2,q4,q3,q5⟩
   have HIe:=Hi (hI.out.op h0 q1 q2 q3)
   have hcl:=q1.cl
   clear q1
   go_wp2_with fail
   go_ret
   exact ⟨gw,n,M,m',by rw[hcl];rfl,hgW,HIe.out.2.2.1,q2.up (by omega) (by omega),q4,HIe.out.1,HIe.out.2.1,fun q=>by
    have hz:=hI.out.2.2.2.2 (by omega)
    rw[q5 hz.1]
    exact hz.2⟩
end
section
open Go.RowKit
attribute [local go_sem] Oper.semAt_some
theorem MtW.row {W:World} {n0 g c M:Nat} {m:Mt} (h:MtW W n0 g c M m):W.ownsRow 0 39 1 (.slice (some ⟨g,0,none⟩) m.ws.length c) m.ws.length (uv m.ws):=by
 obtain ⟨P,rfl,rfl,h3⟩:=h.ex
 exact h3.st.wr
theorem thchk_any (W:World) (g c N:Nat) (ws:List Nat) (m:Mt) (sm d0:Nat) (bA bD:Bool)
  (hr:W.ownsRow 0 39 1 (.slice (some ⟨g,0,none⟩) m.ws.length c) m.ws.length (uv ws)) (hy:MtY m N) (hc:Cmd m) (hk:Lke m ws sm)
  (hA:shortC (extendC 0 (arOf ws m.data m.area))=sm↔bA=false) (hD:∀d,d<m.data→(ctAt (arOf ws m.data m.area) d=m.S.da.count d↔¬(bD=true∧d=d0))) (hd0:bD=true→d0<m.data) :
  Calls Tryz.prog 8 #[.slice (some ⟨g,0,none⟩) m.ws.length c] W fun e w'=>∃v,e=.returned v∧w'.ownsRow W.heap.size 52 4 v (nA bA+nA bD) (vA bA++vD bD d0 (ctAt (arOf ws m.data m.area) d0))∧Below W.heap.size W w':=by
 obtain ⟨G,hx⟩:=hy.ex
 exact thcheck_any W g m.ws.length c ws m N G sm d0 bA bD hr hk.nd.ln (own_cap hr) hk.w64 hx hc hy.lf hy.len hk.nd hk.w0 hk.rb hk.sm hA hD hd0
theorem thchk_none (W:World) (g c N:Nat) (m:Mt) (hr:W.ownsRow 0 39 1 (.slice (some ⟨g,0,none⟩) m.ws.length c) m.ws.length (uv m.ws)) (hy:MtY m N) (hc:Cmd m) :
  Calls Tryz.prog 8 #[.slice (some ⟨g,0,none⟩) m.ws.length c] W fun e w'=>∃A cv,e=.returned (.slice A 0 cv)∧Below W.heap.size W w':=by
 obtain ⟨G,hx⟩:=hy.ex
 refine (thchk_any W g c N m.ws m _ 0 false false hr hy hc (lke_self hx hc) ?_ ?_ ?_).mono ?_
 ·rw[hc.ar];exact iff_of_true rfl rfl
 ·intro d hd
  rw[hc.ar,ct_self hx hc hd]
  exact iff_of_true rfl (by simp)
 ·intro q;cases q
 ·rintro e w' ⟨v,rfl,hrow,hb⟩
  obtain ⟨A,cv,rfl⟩:=own_form hrow
  exact ⟨A,cv,rfl,hb⟩
theorem awake29_any (W:World):Calls Tryz.prog 11 #[] W fun e w'=>e=.returned (.bool true)∧Below W.heap.size W w':=by
 have HNW:=Hi (new_any none 0 0 [] W rfl Reads.nil (fun x hx=>by cases hx) (Nat.le_refl _))
 go_enter Tryz.func11,Tryz.ntmps11
 go_wp2_with fail
 refine HNW.out.mono ?_
 rintro e w1 ⟨rfl,hs1,hb1,hz1⟩
 have HMD:=Hi (made29_any w1 W.heap.size 0 hs1 (by omega))
 have HB1:=Hi hb1
 have HZ1:=Hi hz1
 clear hs1 hb1 hz1 HNW
 go_wp2_with fail
 refine HMD.out.mono ?_
 rintro e w2 ⟨gw,c,M,m,rfl,hgw,hmw,hy,hc,hs2,hg2,har0⟩
 have har:=har0 trivial
 have hrow:=hmw.row
 have hb2:Below W.heap.size W w2:=by
  have h1:=HZ1.out
  have h2:=HB1.out
  exact ⟨hg2.os.trans h2.os,hg2.tape.trans h2.tape,hg2.output.trans h2.output,Nat.le_trans h2.size hg2.size,fun j hj=>(hg2.block j (by omega) (fun e=>by injection e with e;omega)).trans (h2.block j hj)⟩
 have HC2:=Hi (thchk_none w2 gw c 60 m hrow hy hc)
 obtain ⟨G,hx⟩:=hy.ex
 have hdt:=hmw.dt
 have hj:0<arB m.data * 16:=by have:=hx.d1;unfold arB;omega
 have hi:16=arAt m.data m.area+0:=by rw[har];unfold arAt;omega
 have hlk:=lke_flip hx hc hdt (k:=0) hi hj (by omega)
 have hsz:=hx.sz
 obtain ⟨x,hxx⟩ :∃q,m.ws[16]?.getD 0=q:=⟨_,rfl⟩
 obtain ⟨y,hyy⟩ :∃q,x ^^^ 1=q:=⟨_,rfl⟩
 rw[hxx,show (2:Nat) ^ 0=1 from rfl,hyy] at hlk
 have hx64:x<18446744073709551616:=by
  rw[←hxx,List.getElem?_eq_getElem (by omega)]
  exact hx.w6 _ (List.getElem_mem _)
 have hxor:bits BinOp.xor IntKind.u64 (x:Int) 1=(y:Int):=by rw[←hyy];exact u64_xor_nat x 1 hx64 (by omega)
 obtain ⟨n,hn⟩ :∃q,m.ws.length=q:=⟨_,rfl⟩
 have hn17:17≤n:=by omega
 have hst:=(hrow.stored 16 (.int .u64 (y:Int))).1
 rw[uv_set] at hst
 have HST:=Hi hst
 have HLK:=Hi hlk
 have HY:=Hi hy
 have HCM:=Hi hc
 have HRW:=Hi hrow
 have HD1:Hid (0<m.data):=hx.d1
 have HXX:=Hi hxx
 rw[hn] at HC2 HST HRW ⊢
 have HN:=Hi hn
 have HB2:=Hi hb2
 have HGW:Hid (W.heap.size≤gw):=by have:=HB1.out.size;show W.heap.size≤gw;omega
 have hgl:gw<w2.heap.size:=own_lt hrow _ rfl
 clear hn har hi hj hdt hsz hxx hyy hx hlk hst hy hc hrow hmw hs2 hg2 hb2 har0 hgw
 go_wp2_with fail
 refine HC2.out.mono ?_
 rintro e w3 ⟨A3,cv3,rfl,hb3⟩
 have h3:=own_keepU' HRW.out hb3
 have x16:w3.cell? ⟨gw,16,none⟩=some (.int .u64 (x:Int)):=by
  have:=h3.cellAt 16 (by omega)
  rw[uv_at _ _ (by rw[HN.out];omega),HXX.out] at this
  exact this
 have f16:=h3.frozenAt 16
 have h4:=(h3.stored 16 (.int .u64 (y:Int))).1
 rw[uv_set] at h4
 obtain ⟨w4,hw4⟩ :∃q,w3.setCell ⟨gw,16,none⟩ (.int .u64 (y:Int))=q:=⟨_,rfl⟩
 rw[hw4] at h4
 have hf4:Fr (fun j=>j=gw) w3 w4:=by rw[←hw4];exact fr_set _ _ _ _
 have HB4:Hid (Below W.heap.size W w4):=(HB2.out.trans (hb3.mono HB2.out.size)).trans (hf4.below (Nat.le_trans HB2.out.size hb3.size) (fun j hj=>by have:=HGW.out;have:j=gw:=hj;omega))
 have hck:=thchk_any w4 gw c 60 (m.ws.set 16 y) m _ (4 * 0+0 / 16) true (decide (4 * 0+0 / 16<m.data)) (by rw[HN.out];exact h4) HY.out HCM.out HLK.out.1 HLK.out.2.1 HLK.out.2.2 (fun q=>by simpa using q)
 rw[HN.out] at hck
 have hdec:decide (4 * 0+0 / 16<m.data)=true:=by have:=HD1.out;simp;omega
 rw[hdec] at hck
 have HCK:=Hi hck
 have HFW:=Hi (fun w=>thcheck_few w none 0 0 (by omega))
 clear hck hdec h3 h4 hb3 hf4
 go_wp2_with fail
 refine HCK.out.mono ?_
 rintro e w5 ⟨v5,rfl,hown5,hb5⟩
 obtain ⟨A5,c5,hv5⟩:=own_form hown5
 subst hv5
 obtain ⟨b5,o5,hA5,hbl5,hcl5⟩:=Reads.of_own hown5 (by simp[vA,vD,vioC])
 subst hA5
 have z1:w5.cell? ⟨b5,o5+1,none⟩=some (plV 3):=hcl5 1 _ rfl
 have z5:w5.cell? ⟨b5,o5+5,none⟩=some (plV 13):=hcl5 5 _ rfl
 have HB5:=Hi (HB4.out.trans (hb5.mono HB4.out.size))
 clear hown5 hcl5 hb5 HCK
 go_wp2_with fail
 refine (HFW.out _).mono ?_
 rintro e w6 ⟨A6,c6,vs6,rfl,hr6,hb6⟩
 have y1:w6.cell? ⟨b5,o5+1,none⟩=some (.string ⟨#[97,114,101,97]⟩):=(hb6.cell (p:=⟨b5,o5+1,none⟩) hbl5).trans z1
 have y5:w6.cell? ⟨b5,o5+1 * 4+1,none⟩=some (.string ⟨#[99,111,117,110,116]⟩):=(hb6.cell (p:=⟨b5,o5+1 * 4+1,none⟩) hbl5).trans z5
 have HB6:=Hi (HB5.out.trans (hb6.mono HB5.out.size))
 clear hr6 hb6 HFW
 go_wp2_with fail
 go_ret
 exact ⟨rfl,HB6.out⟩
end
end Go.Proofs.YtplhdjdkobddnaaGreat
