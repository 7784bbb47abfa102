/- MwG ThC ThD ThE ThF -/
import Derived.Test.YtplhdjdkobddnaaGreatTr25
set_option linter.unusedVariables false
set_option maxRecDepth 100000
set_option maxHeartbeats 40000000
namespace Go.Proofs.YtplhdjdkobddnaaGreat
section
open Go.RowKit
attribute [local go_sem] Oper.semAt_some
def arZ (data:Nat):List Nat:=arW (List.replicate data 0)
def fmW1 (ws:List Nat) (data:Nat):List Nat:=cpL ws (arAt data 0) (arZ data) 0 (arB data * 16)
def fmW2 (ws:List Nat) (data:Nat):List Nat:=cpL (fmW1 ws data) ((2 * arB data+1) * 16) (encN 0 0 [] ((2 * arB data+1:Nat):Int)) 0 16
def fmW3 (ws:List Nat) (data chunk:Nat):List Nat:=cpL (fmW2 ws data) ((2 * arB data+2) * 16) (rtW (2 * arB data+2) 0 (2 * arB data+1) 0 data chunk 0 (shortC (extendC 0 (arZ data)))) 0 16
def fmW (ws:List Nat) (data chunk:Nat):List Nat:=(fmW3 ws data chunk).set 0 (cwW (2 * arB data+2) 0)
theorem fmW1_len (ws:List Nat) (data:Nat):(fmW1 ws data).length=ws.length:=cpL_length _ _ _ _ _
theorem fmW2_len (ws:List Nat) (data:Nat):(fmW2 ws data).length=ws.length:=(cpL_length _ _ _ _ _).trans (fmW1_len _ _)
theorem fmW3_len (ws:List Nat) (data chunk:Nat):(fmW3 ws data chunk).length=ws.length:=(cpL_length _ _ _ _ _).trans (fmW2_len _ _)
theorem fmW_len (ws:List Nat) (data chunk:Nat):(fmW ws data chunk).length=ws.length:=by unfold fmW;rw[List.length_set,fmW3_len]
theorem nv_zero (n:Nat):(madeCells #[Value.int IntKind.i64 0] n).toList=nv (List.replicate n 0):=by
 rw[toList_madeCells_one];simp[nv]
theorem arZ_len (data:Nat):(arZ data).length=arB data * 16:=by unfold arZ;rw[arW_len,List.length_replicate]
theorem arZ_w (data:Nat):W64 (arZ data):=arW_w _ (fun x hx=>by have:=List.eq_of_mem_replicate hx;omega)
theorem rformat27_any (g m c data chunk:Nat) (ws:List Nat) (W:World) (hm:ws.length=m) (hA:W.ownsRow 0 39 1 (.slice (some ⟨g,0,none⟩) m c) m (uv ws)) (hl:m≤1000000) (h1:1≤data) (h2:data≤16384) (c1:1≤chunk) (c2:chunk≤64) (hsz:(2 * arB data+49) * 16≤m) :
  Calls Tryz.prog 36 #[.slice (some ⟨g,0,none⟩) m c,.int .i64 (data:Int),.int .i64 (chunk:Int)] W fun e w'=>e=.returned (.int .i64 0)∧w'.ownsRow 0 39 1 (.slice (some ⟨g,0,none⟩) m c) m (uv (fmW ws data chunk))∧Fr (· =g) W w':=by
 obtain ⟨i0,hi0,hz0,hz1,hz2⟩:=info_parts int_info
 have hcap:=own_cap hA
 have hglt:=own_lt hA g rfl
 have hab:arB data≤257:=by unfold arB;omega
 have hab1:1≤arB data:=by unfold arB;omega
 have har0:arAt data 0=16:=by unfold arAt;omega
 have HSZ:=Hi (fun w=>rsize27_any (data:Int) w)
 have hszv:szM (data:Int)=(2 * (arB data:Int)+49) * 16:=by unfold szM;rw[if_neg (by omega),Int.toNat_natCast]
 rw[hszv] at HSZ
 have HAR:=Hi (fun w=>rareas_any data w (by omega))
 have HAO:Hid (∀w,Calls Tryz.prog 16 #[.slice (some ⟨g,0,none⟩) m c,.int .i64 (data:Int),.int .i64 0] w fun e w'=>e=.returned (.slice (some ⟨g,16,none⟩) (arB data * 16) (c - 16))∧w=w'):=fun w=>by
  have:=rareaof_any ⟨g,0,none⟩ m c data 0 w h2 h1 (by omega) (by rw[har0];omega) hcap hl
  rw[Addr.add_lit,har0] at this
  exact this
 have HBL:Hid (∀w b,(b+1) * 16≤m→Calls Tryz.prog 22 #[.slice (some ⟨g,0,none⟩) m c,.int .i64 (b:Int)] w fun e w'=>e=.returned (.slice (some ⟨g,b * 16,none⟩) 16 (c - b * 16))∧w=w'):=fun w b hb=>by
  have:=rblock_any ⟨g,0,none⟩ m c b w hb hcap hl
  rw[Addr.add_lit,Nat.zero_add] at this
  exact this
 have d1:¬(data:Int)<1:=by omega
 have d2:¬(16384:Int)<(data:Int):=by omega
 have d3:¬(chunk:Int)<1:=by omega
 have d4:¬(64:Int)<(chunk:Int):=by omega
 have d5:¬(m:Int)<(2 * (arB data:Int)+49) * 16:=by omega
 have HOWN:=Hi hA
 have HLEN:=Hi hm
 have HF1:Hid (fmW1 ws data=cpL ws 16 (arZ data) 0 (arB data * 16)):=by show _=_;unfold fmW1;rw[har0]
 obtain ⟨a,ha⟩ :∃a,arB data=a:=⟨_,rfl⟩
 have HAB:=Hi ha
 rw[ha] at HSZ HAR HAO d5 hab hab1 hsz HF1
 have e1:IntKind.i64.wrap (2 * (a:Int))=2 * (a:Int):=IntWalk.i64_in _ (by omega)
 have e2:IntKind.i64.wrap (2 * (a:Int)+1)=((2 * a+1:Nat):Int):=by rw[IntWalk.i64_in _ (by omega)];omega
 have e3:IntKind.i64.wrap (((2 * a+1:Nat):Int)+1)=((2 * a+2:Nat):Int):=by rw[IntWalk.i64_in _ (by omega)];omega
 clear hA hm ha hszv har0
 go_enter Tryz.func36,Tryz.ntmps36
 go_wp2_with fail
 refine (HSZ.out _).mono ?_
 rintro e w' ⟨rfl,rfl⟩
 go_wp2_with (at_make;refine wpList_make_full _ rfl _ _ _ rfl W.heap.size 3 i0 _ 1 Tryz.underlying22 hi0 hz0 hz1 .i64 .i64 _ _ data rfl rfl rfl rfl ?_ ?_ ?_ ?_)
 ·rw[hz2];omega
 ·simp only[maxLen];omega
 ·exact Nat.le_refl _
 intro w1 hown hg1
 rw[nv_zero] at hown
 have B1:Hid (Below W.heap.size W w1):=(Below.refl _ W).grown hg1 (Nat.le_refl _) (by intro k hk;cases hk)
 have HAW:=Hi (rareawords_any (some ⟨W.heap.size,0,none⟩) data data (List.replicate data 0) w1 (by simp) (Reads.of_own hown) (fun x hx=>by have:=List.eq_of_mem_replicate hx;omega) h2 h1)
 clear hown hg1
 go_wp2_with fail
 refine HAW.out.mono ?_
 rintro e w2 ⟨ga,rfl,hoa,hb2⟩
 rw[HAB.out] at hoa ⊢
 have B2:=Hi (B1.out.trans (hb2.mono B1.out.size))
 have HOA:Hid (w2.ownsRow w1.heap.size 39 1 (.slice (some ⟨ga,0,none⟩) (a * 16) (a * 16)) (a * 16) (uv (arZ data))):=hoa
 have hga:w1.heap.size≤ga∧ga<w2.heap.size:=by have q:=own_base hoa ga rfl;exact ⟨q,own_lt hoa ga rfl⟩
 have hw1:=B1.out.size
 clear hoa hb2
 go_wp2_with fail
 refine (HAO.out _).mono ?_
 rintro e w' ⟨rfl,rfl⟩
 have hg2:g<w2.heap.size:=by omega
 obtain ⟨W3,hrun3,hown3,hfr3⟩:=copy_own (W:=w2) (own_keepU' HOWN.out B2.out) HLEN.out HOA.out (by rw[arZ_len,HAB.out]) 16 0 (a * 16) (by omega) (by omega)
 have H3:Hid (W3.ownsRow 0 39 1 (.slice (some ⟨g,0,none⟩) m c) m (uv (fmW1 ws data))):=by
  show World.ownsRow _ _ _ _ _ _ _
  rw[HF1.out]
  exact hown3
 have F3:Hid (Fr (· =g) W W3):=(Fr.of_below B2.out).trans hfr3
 have HOA3:=Hi (own_fr HOA.out hfr3 (fun b hb e=>by simp[Value.ownBlock] at hb;omega))
 have HR3:=Hi hrun3
 have HFR3:=Hi hfr3
 clear hown3 hfr3 hrun3
 go_wp2_with (refine wpList_copy_run _ rfl (.tmp 35) (.tmp 36) _ _ rfl (.slice (some ⟨g,16,none⟩) (a * 16) (c - 16)) (.slice (some ⟨ga,0,none⟩) (a * 16) (a * 16)) (by simp[Act.eval]) (by simp[Act.eval]) _ _ (HR3.out _ _ _ _ (Nat.le_refl _)) ?_)
 refine (HAR.out _).mono ?_
 rintro e w' ⟨rfl,rfl⟩
 go_wp2_with fail
 have hval0:validN 0 0 []=0:=by decide
 refine (refEncode_ok 0 0 ((2 * a+1:Nat):Int) none 0 0 [] _ rfl Reads.nil (by intro p hp;cases hp) hval0 (by omega) (by omega)).mono ?_
 rintro e w4 ⟨gl,rfl,hol,hb4⟩
 have hs3:=F3.out.size
 have hsw3:=hb4.size
 have hgl:W3.heap.size≤gl∧gl<w4.heap.size:=⟨own_base hol gl rfl,own_lt hol gl rfl⟩
 have hs23:w2.heap.size≤W3.heap.size:=HFR3.out.size
 have H4:=Hi (own_keepU' H3.out hb4)
 have HOA4:=Hi (own_keepU' HOA3.out hb4)
 have F4:Hid (Fr (· =g) W w4):=F3.out.trans (Fr.of_below hb4)
 have HOL:=Hi hol
 clear hol hb4
 go_wp2_with fail
 refine (HBL.out _ (2 * a+1) (by omega)).mono ?_
 rintro e w' ⟨rfl,rfl⟩
 obtain ⟨W5,hrun5,hown5,hfr5⟩:=copy_own (W:=w4) H4.out (by rw[fmW1_len,HLEN.out]) HOL.out (encN_length _ _ _ _) ((2 * a+1) * 16) 0 16 (by omega) (by omega)
 have hs45:=hfr5.size
 have H5:Hid (W5.ownsRow 0 39 1 (.slice (some ⟨g,0,none⟩) m c) m (uv (fmW2 ws data))):=by
  show World.ownsRow _ _ _ _ _ _ _
  unfold fmW2
  rw[HAB.out]
  exact hown5
 have F5:Hid (Fr (· =g) W W5):=F4.out.trans hfr5
 have HOA5:=Hi (own_fr HOA4.out hfr5 (fun b hb e=>by simp[Value.ownBlock] at hb;omega))
 have HR5:=Hi hrun5
 clear hown5 hfr5 hrun5
 go_wp2_with (refine wpList_copy_run _ rfl (.tmp 50) (.tmp 51) _ _ rfl (.slice (some ⟨g,(2 * a+1) * 16,none⟩) 16 (c - (2 * a+1) * 16)) (.slice (some ⟨gl,0,none⟩) 16 16) (by simp[Act.eval]) (by simp[Act.eval]) _ _ (HR5.out _ _ _ _ (Nat.le_refl _)) ?_)
 refine (HBL.out _ (2 * a+2) (by omega)).mono ?_
 rintro e w' ⟨rfl,rfl⟩
 go_wp2_with fail
 have HRW:=rrootwords_any (2 * a+2) 0 (2 * a+1) 0 data chunk 0 (some ⟨ga,0,none⟩) (a * 16) (a * 16) (arZ data) W5 (by rw[arZ_len,HAB.out]) (Reads.of_own HOA5.out) (arZ_w data) (by omega) (by omega) (by omega) (by omega) (by omega) (by omega) (by omega) (by omega)
 simp only[Int.natCast_zero] at HRW
 refine HRW.mono ?_
 clear HRW
 rintro e w6 ⟨gr,rfl,hor,hb6⟩
 have hs6:=hb6.size
 have hgr:W5.heap.size≤gr∧gr<w6.heap.size:=⟨own_base hor gr rfl,own_lt hor gr rfl⟩
 have H6:=Hi (own_keepU' H5.out hb6)
 have F6:Hid (Fr (· =g) W w6):=F5.out.trans (Fr.of_below hb6)
 obtain ⟨W7,hrun7,hown7,hfr7⟩:=copy_own (W:=w6) H6.out (by rw[fmW2_len,HLEN.out]) hor (rt_facts _ _ _ _ _ _ _ _ (by omega)).1 ((2 * a+2) * 16) 0 16 (by omega) (by omega)
 have H7:Hid (W7.ownsRow 0 39 1 (.slice (some ⟨g,0,none⟩) m c) m (uv (fmW3 ws data chunk))):=by
  show World.ownsRow _ _ _ _ _ _ _
  unfold fmW3
  rw[HAB.out]
  exact hown7
 have F7:Hid (Fr (· =g) W W7):=F6.out.trans hfr7
 have HR7:=Hi hrun7
 clear hown7 hfr7 hrun7 hor hb6
 go_wp2_with (refine wpList_copy_run _ rfl (.tmp 56) (.tmp 63) _ _ rfl (.slice (some ⟨g,(2 * a+2) * 16,none⟩) 16 (c - (2 * a+2) * 16)) (.slice (some ⟨gr,0,none⟩) 16 16) (by simp[Act.eval]) (by simp[Act.eval]) _ _ (HR7.out _ _ _ _ (Nat.le_refl _)) ?_)
 have HCW:=rword27_any (2 * a+2) 0 W7
 simp only[Int.natCast_zero] at HCW
 refine HCW.mono ?_
 clear HCW
 rintro e w8 ⟨rfl,hb8⟩
 have H8:=Hi (own_keepU' H7.out hb8)
 have F8:Hid (Fr (· =g) W w8):=F7.out.trans (Fr.of_below hb8)
 have hc0:=H8.out.cellAt 0 (by omega)
 rw[uv_at _ _ (by rw[fmW3_len,HLEN.out];omega)] at hc0
 have hf0:=H8.out.frozenAt 0
 have hm0:0<m:=by omega
 go_wp2_with fail
 go_ret
 have hst:=(H8.out.stored 0 (.int .u64 ((cwW (2 * a+2) 0:Nat):Int))).1
 rw[uv_set] at hst
 refine ⟨rfl,?_,F8.out.set (.inl rfl) _⟩
 unfold fmW
 rw[HAB.out]
 exact hst
end
section
open Go.RowKit
attribute [local go_sem] Oper.semAt_some
def ctZ (l:List Nat) (n k:Nat):List Nat:=ctsN l k++List.replicate (n - k) 0
theorem ctsN_len (l:List Nat) (k:Nat):(ctsN l k).length=k:=by simp[ctsN]
theorem ctZ_len (l:List Nat) (n k:Nat) (h:k≤n):(ctZ l n k).length=n:=by unfold ctZ;rw[List.length_append,ctsN_len,List.length_replicate];omega
theorem ctZ_set (l:List Nat) (n k:Nat) (h:k<n):(ctZ l n k).set k (ctAt l k)=ctZ l n (k+1):=by
 unfold ctZ
 rw[List.set_append_right _ _ (by rw[ctsN_len];exact Nat.le_refl _),ctsN_len,Nat.sub_self]
 obtain ⟨j,hj⟩ :∃j,n - k=j+1:=⟨n - k - 1,by omega⟩
 rw[hj,show n - (k+1)=j by omega,List.replicate_succ,List.set_cons_zero]
 unfold ctsN
 rw[List.range_succ,List.map_append,List.append_assoc]
 rfl
theorem ctZ_all (l:List Nat) (n:Nat):ctZ l n n=ctsN l n:=by unfold ctZ;rw[Nat.sub_self];simp
theorem thareacounts_any (A:Option Addr) (m c n:Nat) (l:List Nat) (W:World) (hm:l.length=m) (hA:Reads W A (uv l)) (hw:W64 l) (hl:n≤16384) (h1:arB n * 16≤m) (hml:m≤1000000) :
  Calls Tryz.prog 33 #[.slice A m c,.int .i64 (n:Int)] W fun e w'=>∃g,e=.returned (.slice (some ⟨g,0,none⟩) n n)∧w'.ownsRow W.heap.size 3 1 (.slice (some ⟨g,0,none⟩) n n) n (nv (ctsN l n))∧Below W.heap.size W w':=by
 obtain ⟨i0,hi0,hz0,hz1,hz2⟩:=info_parts int_info
 have hC:∀k,k<n→∃g off,A=some ⟨g,off,none⟩∧g<W.heap.size∧k / 4<m∧W.cell? ⟨g,off+k / 4,none⟩=some (.int .u64 ((l[k / 4]?.getD 0:Nat):Int)):=fun k hk=>by
  have hin:=ar_in hk
  obtain ⟨g0,off,e,hg0,hcl⟩:=hA (by rw[uv_length];omega)
  exact ⟨g0,off,e,hg0,by omega,hcl _ _ (uv_at l (k / 4) (by omega))⟩
 have HC:=Hi hC
 have HW:=Hi hw
 have HZ:=Hi (ctZ_all l n)
 have HZ0:Hid (nv (List.replicate n 0)=nv (ctZ l n 0)):=by show _=_;unfold ctZ ctsN;simp
 have HZL:=Hi (fun k (h:k≤n)=>ctZ_len l n k h)
 have HZS:=Hi (fun k (h:k<n)=>ctZ_set l n k h)
 clear hC hA hw hm h1
 go_enter Tryz.func33,Tryz.ntmps33
 go_wp2_with (at_make;refine wpList_make_full _ rfl _ _ _ rfl W.heap.size 3 i0 _ 1 Tryz.underlying22 hi0 hz0 hz1 .i64 .i64 _ _ n rfl rfl rfl rfl ?_ ?_ ?_ ?_)
 ·rw[hz2];omega
 ·simp only[maxLen];omega
 ·exact Nat.le_refl _
 intro w1 hown hg
 rw[nv_zero,HZ0.out] at hown
 have HB:Hid (Below W.heap.size W w1):=(Below.refl _ W).grown hg (Nat.le_refl _) (by intro k hk;cases hk)
 have HO:=Hi hown
 clear hown hg
 go_wp2_with fail
 go_loopw [11] (fun i w2=>∃k:Nat,k≤n∧i=.int .i64 k∧Hid (w2.ownsRow W.heap.size 3 1 (.slice (some ⟨W.heap.size,0,none⟩) n n) n (nv (ctZ l n k)))∧Hid (Below W.heap.size W w2)) (fun i _=>n - (intOf i).toNat)
 case atStart=>exact ⟨0,Nat.zero_le _,rfl,HO,HB⟩
 case round=>
  obtain ⟨k,hk,rfl,ho,hb⟩:=hrel
  by_cases hlt:k<n
  ·obtain ⟨g0,off,rfl,hg0,hin,hc⟩:=HC.out k hlt
   have hc2:=(hb.out.cell (p:=⟨g0,off+k / 4,none⟩) hg0).trans hc
   have hx:=HW.out.at (k / 4)
   have HT:Hid (ctAt l k=((l[k / 4]?.getD 0) >>> (16 * (k % 4))) % 65536):=rfl
   obtain ⟨x,ex⟩ :∃x,l[k / 4]?.getD 0=x:=⟨_,rfl⟩
   rw[ex] at hc2 hx hc HT
   clear ex hc
   have hq:bits BinOp.and IntKind.u64 ((x:Int) / 2 ^ (k % 4 * 16)) 65535=((ctAt l k:Nat):Int):=by
    rw[HT.out,Nat.shiftRight_eq_div_pow,Nat.mul_comm]
    have e:=and_low (x / 2 ^ (16 * (k % 4))) 16 (by omega) (Nat.lt_of_le_of_lt (Nat.div_le_self _ _) hx)
    rw[Int.natCast_ediv,Int.natCast_pow] at e
    exact e
   have hql:=ctAt_lt l k
   have hst:=(ho.out.stored k (.int .i64 ((ctAt l k:Nat):Int))).1
   rw[nv_set,HZS.out k hlt] at hst
   have hcc:=ho.out.cellAt k (by omega)
   rw[nv_at _ _ (by rw[HZL.out k hk];exact hlt)] at hcc
   have hfz:=ho.out.frozenAt k
   obtain ⟨q,eq⟩ :∃q,ctAt l k=q:=⟨_,rfl⟩
   rw[eq] at hq hql hst
   have HST:=Hi hst
   have eqi:IntKind.i64.wrap (q:Int)=(q:Int):=IntWalk.i64_in _ (by omega)
   have HBS:=Hi (hb.out.setCell (p:=⟨W.heap.size,k,none⟩) (Nat.le_refl _) (.int .i64 (q:Int)))
   clear eq HT hst
   go_wp2_with fail
   go_roundw
   case rel=>exact ⟨k+1,by omega,by go_num,HST,HBS⟩
   case measure=>simp[intOf];omega
  ·have hke:n=k:=by omega
   subst hke
   go_wp2_with fail
   go_ret
   refine ⟨W.heap.size,rfl,?_,hb.out⟩
   have:=ho.out
   rw[HZ.out] at this
   exact this
theorem thequal_any (A B:Option Addr) (n c d:Nat) (l r:List Nat) (w:World) (hn:l.length=n) (hr:r.length=n) (hA:Reads w A (uv l)) (hB:Reads w B (uv r)) (hl:n≤1000000) :
  Calls Tryz.prog 68 #[.slice A n c,.slice B n d] w fun e w'=>e=.returned (.bool (decide (l=r)))∧Below w.heap.size w w':=by
 have hC:∀k,k<n→∃g off g2 off2,A=some ⟨g,off,none⟩∧g<w.heap.size∧w.cell? ⟨g,off+k,none⟩=some (.int .u64 ((l[k]?.getD 0:Nat):Int))∧B=some ⟨g2,off2,none⟩∧g2<w.heap.size∧w.cell? ⟨g2,off2+k,none⟩=some (.int .u64 ((r[k]?.getD 0:Nat):Int)):=fun k hk=>by
  obtain ⟨g0,off,e,hg0,hcl⟩:=hA (by rw[uv_length];omega)
  obtain ⟨g1,off1,e1,hg1,hcl1⟩:=hB (by rw[uv_length];omega)
  exact ⟨g0,off,g1,off1,e,hg0,hcl _ _ (uv_at l k (by omega)),e1,hg1,hcl1 _ _ (uv_at r k (by omega))⟩
 have HC:=Hi hC
 have HN:=Hi hn
 have HR:=Hi hr
 clear hC hA hB hn hr
 go_enter Tryz.func68,Tryz.ntmps68
 go_wp2_with fail
 go_loopw [5,13] (fun _ s13 wr=>∃k:Nat,k≤n∧s13=.int .i64 k∧Hid (∀j,j<k→l[j]?.getD 0=r[j]?.getD 0)∧Hid (Below w.heap.size w wr)) (fun _ s13 _=>n - (intOf s13).toNat)
 case atStart=>exact ⟨0,Nat.zero_le _,rfl,fun j hj=>absurd hj (Nat.not_lt_zero _),Below.refl _ _⟩
 case round=>
  obtain ⟨k,hk,rfl,he,hb⟩:=hrel
  by_cases hlt:k<n
  ·obtain ⟨g0,off,g1,off1,rfl,hg0,hc0,rfl,hg1,hc1⟩:=HC.out k hlt
   have y0:=(hb.out.cell (p:=⟨g0,off+k,none⟩) hg0).trans hc0
   have y1:=(hb.out.cell (p:=⟨g1,off1+k,none⟩) hg1).trans hc1
   obtain ⟨x,ex⟩ :∃x,l[k]?.getD 0=x:=⟨_,rfl⟩
   obtain ⟨y,ey⟩ :∃y,r[k]?.getD 0=y:=⟨_,rfl⟩
   rw[ex] at y0
   rw[ey] at y1
   have EX:=Hi ex
   have EY:=Hi ey
   have hki:(k:Int)<(n:Int):=by omega
   clear hc0 hc1 ex ey
   by_cases hxy:x=y
   ·have t1:((x:Int) != (y:Int))=false:=by simp;omega
    have HXY:=Hi hxy
    clear hxy
    go_wp2_with fail
    go_quiet (fail)
    go_wp2_with fail
    go_roundw
    case rel=>
     refine ⟨k+1,by omega,by go_num,fun j hj=>?_,hb.out.trans ⟨rfl,rfl,rfl,Nat.le_refl _,fun _ _=>rfl⟩⟩
     by_cases e:j=k
     ·rw[e,EX.out,EY.out];exact HXY.out
     ·exact he.out j (by omega)
    case measure=>simp[intOf];omega
   ·have t1:((x:Int) != (y:Int))=true:=by simp;omega
    have HXY:=Hi hxy
    clear hxy
    go_wp2_with fail
    go_quiet (fail)
    go_wp2_with fail
    go_ret
    refine ⟨?_,hb.out.trans ⟨rfl,rfl,rfl,Nat.le_refl _,fun _ _=>rfl⟩⟩
    have:decide (l=r)=false:=decide_eq_false (fun q=>HXY.out (by rw[←EX.out,←EY.out,q]))
    rw[this]
    rfl
  ·have hke:n=k:=by omega
   subst hke
   have t1:¬(n:Int)<(n:Int):=by omega
   go_wp2_with fail
   go_ret
   refine ⟨?_,hb.out⟩
   have:decide (l=r)=true:=decide_eq_true (by
    apply List.ext_getElem?
    intro j
    by_cases hj:j<n
    ·have:=he.out j hj
     rw[List.getElem?_eq_getElem (by rw[HN.out];exact hj),List.getElem?_eq_getElem (by rw[HR.out];exact hj)] at this ⊢
     exact congrArg some this
    ·rw[List.getElem?_eq_none (by rw[HN.out];omega),List.getElem?_eq_none (by rw[HR.out];omega)])
   rw[this]
   rfl
end
section
open Go.RowKit
attribute [local go_sem] Oper.semAt_some
theorem thword_eq (r s k:Nat) (hr:r<1048576) (hs:s<16777216) (hk:k<65536):wordR (thW 0) [r,s,k,9]=r+s * 1048576+k * 17592186044416+9 * 1152921504606846976∧wordE (thW 0) [r,s,k,9]=0:=by
 have hf:upto (fldOf (thW 0)) 4= [⟨0,1048575,by omega,by omega⟩,⟨20,16777215,by omega,by omega⟩,⟨44,65535,by omega,by omega⟩,⟨60,15,by omega,by omega⟩]:=by rfl
 have hl:(thW 0).length=4:=rfl
 have hfit:fitsB (upto (fldOf (thW 0)) 4) [r,s,k,9]=true:=by
  rw[hf]
  simp[fitsB]
  omega
 constructor
 ·unfold wordR
  rw[hl,if_pos ⟨rfl,by decide,hfit⟩,hf]
  simp only[wordF,List.getElem?_cons_zero,Option.getD_some,List.tail_cons,Nat.shiftLeft_eq,Nat.or_zero]
  rw[Nat.mod_eq_of_lt (by omega),Nat.mod_eq_of_lt (by omega),Nat.mod_eq_of_lt (by omega),Nat.mod_eq_of_lt (by omega)]
  have e2:s * 2 ^ 20 ||| (k * 2 ^ 44 ||| 9 * 2 ^ 60)=s * 2 ^ 20+(k * 2 ^ 44+9 * 2 ^ 60):=by
   have a1:k * 2 ^ 44 ||| 9 * 2 ^ 60=k * 2 ^ 44+9 * 2 ^ 60:=or_fits _ _ 60 (by omega)
   rw[a1,show k * 2 ^ 44+9 * 2 ^ 60=(k+9 * 2 ^ 16) * 2 ^ 44 by omega]
   exact or_fits _ _ 44 (by omega)
  rw[e2,show s * 2 ^ 20+(k * 2 ^ 44+9 * 2 ^ 60)=(s+(k * 2 ^ 24+9 * 2 ^ 40)) * 2 ^ 20 by omega,show r * 2 ^ 0=r by omega,or_fits _ _ 20 (by omega)]
  omega
 ·unfold wordE
  rw[hl,if_neg (by simp),if_pos ⟨by decide,hfit⟩]
theorem chA {W w1 w2:World} {o:Obj} (hb1:Below W.heap.size W.drew w1) (hb2:Below (w1.alloc o).heap.size (w1.alloc o) w2):Below W.heap.size W w2:=by
 have h1:Below W.heap.size W w1:=(Below.refl _ W).drew.trans hb1
 have hs:=h1.size
 exact (h1.alloc hs o).trans (hb2.mono (by simp;omega))
theorem chB {W w1 w2:World} {o:Obj} (hb1:Below (W.alloc o).heap.size (W.alloc o).drew w1) (hb2:Below w1.heap.size w1 w2):Below W.heap.size W w2:=by
 have h0:Below W.heap.size W (W.alloc o):=(Below.refl _ W).alloc (Nat.le_refl _) o
 have h1:Below W.heap.size W w1:=h0.drew.trans (hb1.mono (by simp))
 exact h1.trans (hb2.mono h1.size)
theorem thcwval_any (r s k b2 b3:Nat) (W:World) (hr:r<1048576) (hs:s<16777216) (hk:k<65536) (x1:W.cell? ⟨b2,0,none⟩=some (.int .i64 (r:Int))) (x2:W.cell? ⟨b3,0,none⟩=some (.int .i64 (s:Int))) (l1:b2<W.heap.size) (l2:b3<W.heap.size) :
  Calls Tryz.prog 107 #[.int .u64 (k:Int),.pointer (some ⟨b2,0,none⟩),.pointer (some ⟨b3,0,none⟩)] W fun e w'=>e=.returned (.int .u64 ((r+s * 1048576+k * 17592186044416+9 * 1152921504606846976:Nat):Int))∧Below W.heap.size W w':=by
 have HT:=Hi (fun w=>thfields_n 0 4 (by omega) rfl w)
 have HW:=Hi (thword_eq r s k hr hs hk)
 have e1:IntKind.u64.wrap (r:Int)=(r:Int):=by rw[wrap_nat,Nat.mod_eq_of_lt (by omega)]
 have e2:IntKind.u64.wrap (s:Int)=(s:Int):=by rw[wrap_nat,Nat.mod_eq_of_lt (by omega)]
 have hw64:W64 [r,s,k,9]:=by
  intro x hx
  simp only[List.mem_cons,List.not_mem_nil,or_false] at hx
  omega
 go_enter Tryz.func107,Tryz.ntmps107
 go_wp2_with fail
 go_cut [5] (fun s5 wx=>s5=.int .u64 ((r+s * 1048576+k * 17592186044416+9 * 1152921504606846976:Nat):Int)∧Hid (Below W.heap.size W wx))
 case first=>
  go_region_with ((first
   |(go_at_call 64;refine (HT.out _).mono ?_;rintro e w1 ⟨g1,rfl,hr1,hg1,hg1l,hb1⟩;(first|(have y1:=(hb1.cell (p:=⟨b2,0,none⟩) l1).trans x1;have y2:=(hb1.cell (p:=⟨b3,0,none⟩) l2).trans x2)|skip))
   |(go_at_call 108;(first|(have hf:=fields_all (some ⟨g1,0,none⟩) (some ⟨w1.heap.size,0,none⟩) 4 4 4 4 (thW 0) [r,s,k,9] (w1.alloc (.cells #[.int .u64 (r:Int),.int .u64 (s:Int),.int .u64 (k:Int),.int .u64 9] 39)) rfl rfl (hr1.keep ((Below.refl _ w1).alloc (Nat.le_refl _) _)) (Reads.new w1 #[.int .u64 (r:Int),.int .u64 (s:Int),.int .u64 (k:Int),.int .u64 9] 39) (by omega) hw64;rw[HW.out.1,HW.out.2] at hf;(with_reducible refine hf.mono ?_);rintro e w2 ⟨rfl,hb2⟩)|(have hf:=fields_all (some ⟨g1,0,none⟩) (some ⟨W.heap.size,0,none⟩) 4 4 4 4 (thW 0) [r,s,k,9] w1 rfl rfl hr1 ((Reads.new W #[.int .u64 (r:Int),.int .u64 (s:Int),.int .u64 (k:Int),.int .u64 9] 39).keep ((Below.refl _ (W.alloc (.cells #[.int .u64 (r:Int),.int .u64 (s:Int),.int .u64 (k:Int),.int .u64 9] 39))).drew.trans hb1)) (by omega) hw64;rw[HW.out.1,HW.out.2] at hf;(with_reducible refine hf.mono ?_);rintro e w2 ⟨rfl,hb2⟩)))))
  all_goals
   go_wp2_with fail
   go_meet
   refine ⟨by congr 1,?_⟩
   first
    |exact chA hb1 hb2
    |exact chB hb1 hb2
 case rest=>
  obtain ⟨hs5,hbc⟩:=hcut
  subst hs5
  go_wp2_with fail
  go_ret
  exact ⟨rfl,hbc.out⟩
theorem thcommitword_any (r s:Nat) (W:World) (hr:r<1048576) (hs:s<16777216) :
  Calls Tryz.prog 65 #[.int .i64 (r:Int),.int .i64 (s:Int)] W fun e w'=>e=.returned (.int .u64 ((cwW r s:Nat):Int))∧Below W.heap.size W w':=by
 have HB:Hid (cwW r s=r+s * 1048576+sum1 (cwB r s) * 17592186044416+9 * 1152921504606846976):=by
  show _=_
  unfold cwW
  generalize sum1 (cwB r s)=x
  unfold cwB
  omega
 have HB0:Hid (cwB r s=r+s * 1048576+0 * 17592186044416+9 * 1152921504606846976):=by
  show _=_
  unfold cwB
  omega
 have HL:=Hi (sum1_lt (cwB r s))
 have hlt:=cwB_lt r s
 go_enter Tryz.func65,Tryz.ntmps65
 have b0:Below W.heap.size W ((W.alloc (.cells #[.int .i64 (r:Int)] 3)).alloc (.cells #[.int .i64 (s:Int)] 3)):=((Below.refl _ W).alloc (Nat.le_refl _) _).alloc (by simp) _
 have C1:=(Cs.new W 3 #[.int .i64 (r:Int)]).below ((Below.refl _ (W.alloc (.cells #[.int .i64 (r:Int)] 3))).alloc (Nat.le_refl _) (.cells #[.int .i64 (s:Int)] 3)) (Cs.new W 3 #[.int .i64 (r:Int)]).lt
 have C2:=Cs.new (W.alloc (.cells #[.int .i64 (r:Int)] 3)) 3 #[.int .i64 (s:Int)]
 rw[show (W.alloc (.cells #[.int .i64 (r:Int)] 3)).heap.size=W.heap.size+1 by simp] at C2
 go_wp2_with fail
 generalize ((W.alloc (.cells #[.int .i64 (r:Int)] 3)).alloc (.cells #[.int .i64 (s:Int)] 3))=w0 at *
 have HV:=Hi (fun k (hk:k<65536) w (hw:Below w0.heap.size w0 w)=>thcwval_any r s k W.heap.size (W.heap.size+1) w hr hs hk ((hw.cell (p:=⟨W.heap.size,0,none⟩) C1.lt).trans (C1.cell 0)) ((hw.cell (p:=⟨W.heap.size+1,0,none⟩) C2.lt).trans (C2.cell 0)) (Nat.lt_of_lt_of_le C1.lt hw.size) (Nat.lt_of_lt_of_le C2.lt hw.size))
 have H0:=Hi (HV.out 0 (by omega) w0 (Below.refl _ _))
 rw[←HB0.out] at H0
 clear C1 C2
 refine H0.out.mono ?_
 rintro e w1 ⟨rfl,hb1⟩
 have hb1':Below w1.heap.size w1 (w1.alloc (.cells #[.int .u64 ((cwB r s:Nat):Int)] 39)):=(Below.refl _ w1).alloc (Nat.le_refl _) _
 have hl64:W64 [cwB r s]:=fun x hx=>by simp at hx;omega
 have HSH:=Hi (thshort_any (some ⟨w1.heap.size,0,none⟩) 1 1 [cwB r s] (w1.alloc (.cells #[.int .u64 ((cwB r s:Nat):Int)] 39)) rfl (Reads.new w1 #[.int .u64 ((cwB r s:Nat):Int)] 39) hl64 (by omega))
 have HB1:=Hi (hb1.trans (hb1'.mono hb1.size))
 have HSU:Hid (shortC (extendC 0 [cwB r s])=sum1 (cwB r s)):=rfl
 rw[HSU.out] at HSH
 obtain ⟨cb,hcb⟩ :∃q,cwB r s=q:=⟨_,rfl⟩
 rw[hcb] at HB HL HSH HB1 ⊢
 obtain ⟨sm,hsm⟩ :∃q,sum1 cb=q:=⟨_,rfl⟩
 rw[hsm] at HB HL HSH
 have HH:=Hi hlt
 clear hb1 hb1' hl64 hcb hsm hlt HB0 HSU H0
 go_wp2_with fail
 refine HSH.out.mono ?_
 rintro e w2 ⟨rfl,hb2⟩
 have HB2:=Hi (HB1.out.trans (hb2.mono HB1.out.size))
 clear hb2
 go_wp2_with fail
 refine (HV.out sm HL.out w2 HB2.out).mono ?_
 rintro e w3 ⟨rfl,hb3⟩
 go_wp2_with fail
 go_ret
 refine ⟨ret_int ?_,b0.trans ((HB2.out.trans (hb3.mono HB2.out.size)).mono b0.size)⟩
 rw[HB.out]
 omega
end
section
open Go.RowKit
attribute [local go_sem] Oper.semAt_some
theorem thcommit_any (x:Nat) (W:World) (hx:x<18446744073709551616) :
  Calls Tryz.prog 25 #[.int .u64 (x:Int)] W fun e w'=>e=.returned (.tuple #[.int .i64 ((x % 1048576:Nat):Int),.int .i64 ((x / 1048576 % 16777216:Nat):Int),.bool (cwOk x)])∧Below W.heap.size W w':=by
 have HO:Hid (cwOk x=decide (x=cwW (x % 1048576) (x / 1048576 % 16777216))):=rfl
 obtain ⟨a,ha⟩ :∃q,x % 1048576=q:=⟨_,rfl⟩
 obtain ⟨b,hb⟩ :∃q,x / 1048576 % 16777216=q:=⟨_,rfl⟩
 have HF:Hid (thF 0 x= [a,b,x / 17592186044416 % 65536,x / 1152921504606846976 % 16]):=by show _=_;rw[←ha,←hb];rfl
 have qa:a<1048576:=by omega
 have qb:b<16777216:=by omega
 rw[ha,hb] at HO ⊢
 clear ha hb
 have HT:=Hi (fun w=>thfields_n 0 4 (by omega) rfl w)
 have HCW:=Hi (fun w=>thcommitword_any a b w qa qb)
 obtain ⟨cw,hcw⟩ :∃q,cwW a b=q:=⟨_,rfl⟩
 rw[hcw] at HO HCW
 obtain ⟨o,ho⟩ :∃q,cwOk x=q:=⟨_,rfl⟩
 rw[ho] at HO ⊢
 clear hcw ho
 have e1:IntKind.i64.wrap (a:Int)=(a:Int):=IntWalk.i64_in _ (by omega)
 have e2:IntKind.i64.wrap (b:Int)=(b:Int):=IntWalk.i64_in _ (by omega)
 have t1:((x:Int) == (cw:Int))=o:=by
  rw[HO.out]
  by_cases q:x=cw
  ·simp[q]
  ·simp[q]
   omega
 go_enter Tryz.func25,Tryz.ntmps25
 go_wp2_with fail
 refine (HT.out _).mono ?_
 rintro e w1 ⟨g1,rfl,hr1,hg1,hg1l,hb1⟩
 have HS:=Hi (thsplit_any 0 x (by omega) w1 _ 4 rfl hr1 hx)
 rw[HF.out] at HS
 have HB1:=Hi hb1
 clear hr1 hb1
 go_wp2_with fail
 refine HS.out.mono ?_
 rintro e w2 ⟨g,d,rfl,hg,hgl,hc,hb2⟩
 have y0:w2.cell? ⟨g,0,none⟩=some (.int .u64 (a:Int)):=hc 0 (by decide)
 have y1:w2.cell? ⟨g,1,none⟩=some (.int .u64 (b:Int)):=hc 1 (by decide)
 have HB2:=Hi (HB1.out.trans (hb2.mono HB1.out.size))
 clear hc HS hb2
 go_wp2_with fail
 go_region
 go_wp2_with fail
 refine (HCW.out _).mono ?_
 rintro e w3 ⟨rfl,hb3⟩
 have HB3:=Hi ((HB2.out.drew).trans (hb3.mono HB2.out.size))
 clear hb3
 go_wp2_with fail
 go_ret3
 exact ⟨rfl,HB3.out⟩
end
section
open Go.RowKit
attribute [local go_sem] Oper.semAt_some
def rwT (hd:Nat) (vs:List Nat):Nat→List Nat
 |0=>(List.replicate 16 0).set 0 hd
 |k+1=>(rwT hd vs k).set (1+k) (vs[k]?.getD 0)
theorem rwT_len (hd:Nat) (vs:List Nat):∀k,(rwT hd vs k).length=16
 |0=>rfl
 |k+1=>by rw[rwT,List.length_set];exact rwT_len hd vs k
theorem rwT_all (hd sq tr ti da ck ar sm:Nat):(rwT hd [sq,tr,ti,da,ck,ar] 6).set 7 sm=padN [hd,sq,tr,ti,da,ck,ar,sm]:=rfl
theorem rwT_w (hd:Nat) (vs:List Nat) (h1:hd<18446744073709551616) (h2:W64 vs):∀k,W64 (rwT hd vs k)
 |0=>W64.set (fun x hx=>by have:=List.eq_of_mem_replicate hx;omega) 0 _ h1
 |k+1=>W64.set (rwT_w hd vs h1 h2 k) _ _ (h2.at k)
theorem throotwords_any (sq tr ti da ck ar sm b:Nat) (W:World) (h1:sq<18446744073709551616) (h2:tr<18446744073709551616) (h3:ti<18446744073709551616) (h4:da<18446744073709551616) (h5:ck<18446744073709551616) (h6:ar<18446744073709551616) (h7:sm<18446744073709551616) :
  Calls Tryz.prog 69 #[.agg #[.int .i64 (sq:Int),.int .i64 (tr:Int),.int .i64 (ti:Int),.int .i64 (da:Int),.int .i64 (ck:Int),.int .i64 (ar:Int),.int .u64 (sm:Int)],.int .i64 (b:Int)] W fun e w'=>∃g,e=.returned (.slice (some ⟨g,0,none⟩) 16 16)∧w'.ownsRow W.heap.size 39 1 (.slice (some ⟨g,0,none⟩) 16 16) 16 (uv (rtW b sq tr ti da ck ar sm))∧Below W.heap.size W w':=by
 obtain ⟨i0,hi0,hz0,hz1,hz2⟩:=info_parts u64_info
 have hvs:W64 [sq,tr,ti,da,ck,ar]:=by
  intro x hx
  simp only[List.mem_cons,List.not_mem_nil,or_false] at hx
  omega
 have hhd:=hdN_lt 1 0 0 (b:Int)
 have HHD:=Hi (fun w=>header_any 1 0 0 (b:Int) w)
 have HPAD:Hid (∀hd,sealN ((rwT hd [sq,tr,ti,da,ck,ar] 6).set 7 sm)=sealN [hd,sq,tr,ti,da,ck,ar,sm]):=fun hd=>by rw[rwT_all];exact sealN_pad _ (by simp)
 have HRT:Hid (rtW b sq tr ti da ck ar sm=sealN [hdN 1 0 0 (b:Int),sq,tr,ti,da,ck,ar,sm]):=rfl
 obtain ⟨hd,hhe⟩ :∃q,hdN 1 0 0 (b:Int)=q:=⟨_,rfl⟩
 rw[hhe] at hhd HHD HRT
 have HAT:Hid (∀k,k<6→∃v:Nat,[sq,tr,ti,da,ck,ar][k]?.getD 0=v∧v<18446744073709551616):=fun k hk=>⟨_,rfl,hvs.at k⟩
 have HWT:=Hi (rwT_w hd [sq,tr,ti,da,ck,ar] hhd hvs 6)
 have HVS:=Hi hvs
 clear hhe
 have bz:∀(w:World) (o:Obj),Below w.heap.size w (w.alloc o):=fun w o=>(Below.refl _ w).alloc (Nat.le_refl _) _
 have B0:=Cs.new W 59 #[.int .i64 (sq:Int),.int .i64 (tr:Int),.int .i64 (ti:Int),.int .i64 (da:Int),.int .i64 (ck:Int),.int .i64 (ar:Int),.int .u64 (sm:Int)]
 have hb0:=bz W (.cells #[.int .i64 (sq:Int),.int .i64 (tr:Int),.int .i64 (ti:Int),.int .i64 (da:Int),.int .i64 (ck:Int),.int .i64 (ar:Int),.int .u64 (sm:Int)] 59)
 go_enter Tryz.func69,Tryz.ntmps69
 go_wp2_with (at_make;refine wpList_make_full _ rfl _ _ _ rfl (W.heap.size+1) 39 i0 _ 1 Tryz.underlying27 hi0 hz0 hz1 .i64 .i64 _ _ 16 rfl rfl rfl rfl ?_ ?_ ?_ ?_)
 ·rw[hz2];omega
 ·simp only[maxLen];omega
 ·simp
 intro w1 hown hg1
 rw[replicate_uvB] at hown
 have hb1:Below (W.alloc (.cells #[.int .i64 (sq:Int),.int .i64 (tr:Int),.int .i64 (ti:Int),.int .i64 (da:Int),.int .i64 (ck:Int),.int .i64 (ar:Int),.int .u64 (sm:Int)] 59)).heap.size (W.alloc (.cells #[.int .i64 (sq:Int),.int .i64 (tr:Int),.int .i64 (ti:Int),.int .i64 (da:Int),.int .i64 (ck:Int),.int .i64 (ar:Int),.int .u64 (sm:Int)] 59)) w1:=(Below.refl _ _).grown hg1 (Nat.le_refl _) (by intro k hk;cases hk)
 have hz:(W.alloc (.cells #[.int .i64 (sq:Int),.int .i64 (tr:Int),.int .i64 (ti:Int),.int .i64 (da:Int),.int .i64 (ck:Int),.int .i64 (ar:Int),.int .u64 (sm:Int)] 59)).heap.size=W.heap.size+1:=by simp
 have HB1:=Hi (hb0.trans (hb1.mono (by rw[hz];omega)))
 have C1:=Hi (B0.below hb1 B0.lt)
 have HO1:=Hi hown
 have hlt1:W.heap.size+1<w1.heap.size:=own_lt hown _ rfl
 clear hown hg1 hb1 hz hb0 B0
 go_wp2_with fail
 refine (HHD.out _).mono ?_
 rintro e w2 ⟨rfl,hb2⟩
 have hO2:=own_keepU' HO1.out hb2
 have hc0:=hO2.cellAt 0 (by omega)
 have hf0:=hO2.frozenAt 0
 have hs0:=(hO2.stored 0 (.int .u64 (hd:Int))).1
 rw[uv_set] at hs0
 have HO3:Hid ((w2.setCell ⟨W.heap.size+1,0,none⟩ (.int .u64 (hd:Int))).ownsRow (W.heap.size+1) 39 1 (.slice (some ⟨W.heap.size+1,0,none⟩) 16 16) 16 (uv (rwT hd [sq,tr,ti,da,ck,ar] 0))):=hs0
 have HB3:=Hi ((HB1.out.trans (hb2.mono HB1.out.size)).setCell (p:=⟨W.heap.size+1,0,none⟩) (Nat.le_succ _) (.int .u64 (hd:Int)))
 have C3:=Hi ((C1.out.below hb2 C1.out.lt).fr (fr_set w2 (W.heap.size+1) 0 (.int .u64 (hd:Int))) (by omega))
 have hz3:(w2.setCell ⟨W.heap.size+1,0,none⟩ (.int .u64 (hd:Int))).heap.size=w2.heap.size:=by simp
 have hz2':=hb2.size
 have hc0':w2.cell? ⟨W.heap.size+1,0,none⟩=some (.int .u64 0):=hc0
 have C2:=C1.out.below hb2 C1.out.lt
 have x0:w2.cell? ⟨W.heap.size,0,none⟩=some (.int .i64 (sq:Int)):=C2.cell 0
 have x1:w2.cell? ⟨W.heap.size,1,none⟩=some (.int .i64 (tr:Int)):=C2.cell 1
 have x2:w2.cell? ⟨W.heap.size,2,none⟩=some (.int .i64 (ti:Int)):=C2.cell 2
 have x3:w2.cell? ⟨W.heap.size,3,none⟩=some (.int .i64 (da:Int)):=C2.cell 3
 have x4:w2.cell? ⟨W.heap.size,4,none⟩=some (.int .i64 (ck:Int)):=C2.cell 4
 have x5:w2.cell? ⟨W.heap.size,5,none⟩=some (.int .i64 (ar:Int)):=C2.cell 5
 clear hO2 hs0 hb2 hc0 C2
 go_wp2_with fail
 generalize (w2.setCell ⟨W.heap.size+1,0,none⟩ (.int .u64 (hd:Int)))=w3 at *
 clear hc0' hf0 x0 x1 x2 x3 x4 x5
 have R4:=Hi (Reads.new w3 #[.int .i64 (sq:Int),.int .i64 (tr:Int),.int .i64 (ti:Int),.int .i64 (da:Int),.int .i64 (ck:Int),.int .i64 (ar:Int)] 3)
 have b34:=bz w3 (.cells #[.int .i64 (sq:Int),.int .i64 (tr:Int),.int .i64 (ti:Int),.int .i64 (da:Int),.int .i64 (ck:Int),.int .i64 (ar:Int)] 3)
 have HO4:=Hi (own_keepU' HO3.out b34)
 have C4:=Hi (C3.out.below b34 C3.out.lt)
 have HB4:=Hi (HB3.out.trans (b34.mono HB3.out.size))
 have hs34:(w3.alloc (.cells #[.int .i64 (sq:Int),.int .i64 (tr:Int),.int .i64 (ti:Int),.int .i64 (da:Int),.int .i64 (ck:Int),.int .i64 (ar:Int)] 3)).heap.size=w3.heap.size+1:=by simp
 generalize (w3.alloc (.cells #[.int .i64 (sq:Int),.int .i64 (tr:Int),.int .i64 (ti:Int),.int .i64 (da:Int),.int .i64 (ck:Int),.int .i64 (ar:Int)] 3))=w4 at *
 have HCL:Hid (∀k,k<6→w4.cell? ⟨w3.heap.size,0+k,none⟩=some (.int .i64 (([sq,tr,ti,da,ck,ar][k]?.getD 0:Nat):Int))):=fun k hk=>by
  obtain ⟨g0,off,e,hg0,hcl⟩:=R4.out (by simp)
  cases e
  exact hcl k _ (nv_at [sq,tr,ti,da,ck,ar] k hk)
 obtain ⟨vs,hvse⟩ :∃q,[sq,tr,ti,da,ck,ar]=q:=⟨_,rfl⟩
 obtain ⟨B4,hB4⟩ :∃q,w2.heap.size=q:=⟨_,rfl⟩
 have hB41:W.heap.size+1<B4:=by omega
 rw[hvse] at HPAD HAT HWT HVS HO4 HCL
 rw[hB4] at hz3 ⊢
 rw[hz3] at HCL hs34
 clear R4 b34 HO3 C3 HB3 hvse hB4 hz3
 go_loopw [6,7,27] (fun _ _ s27 wr=>∃k:Nat,k≤6∧s27=.int .i64 k∧Hid (wr.ownsRow (W.heap.size+1) 39 1 (.slice (some ⟨W.heap.size+1,0,none⟩) 16 16) 16 (uv (rwT hd vs k)))∧Hid (Fr (fun j=>j=W.heap.size+1) w4 wr)) (fun _ _ s27 _=>6 - (intOf s27).toNat)
 case atStart=>exact ⟨0,Nat.zero_le _,rfl,HO4,Fr.refl _ _⟩
 case round=>
  obtain ⟨k,hk,rfl,ho,hf⟩:=hrel
  by_cases hlt:k<6
  ·have hcl:=(hf.out.cell (i:=0+k) (by omega) (by omega)).trans (HCL.out k hlt)
   rw[Nat.zero_add] at hcl
   obtain ⟨v,hv,hvl⟩:=HAT.out k hlt
   have hst:=(ho.out.stored (1+k) (.int .u64 (v:Int))).1
   rw[uv_set] at hst
   have HST:Hid ((wr.setCell ⟨W.heap.size+1,1+k,none⟩ (.int .u64 (v:Int))).ownsRow (W.heap.size+1) 39 1 (.slice (some ⟨W.heap.size+1,0,none⟩) 16 16) 16 (uv (rwT hd vs (k+1)))):=by
    show World.ownsRow _ _ _ _ _ _ (uv ((rwT hd vs k).set (1+k) (vs[k]?.getD 0)))
    rw[hv]
    exact hst
   rw[hv] at hcl
   have hcc:=ho.out.cellAt (1+k) (by omega)
   rw[uv_at _ _ (by rw[rwT_len];omega)] at hcc
   have hfz:=ho.out.frozenAt (1+k)
   have e1:IntKind.u64.wrap (v:Int)=(v:Int):=by rw[wrap_nat,Nat.mod_eq_of_lt hvl]
   have HF:=Hi (hf.out.set (b:=W.heap.size+1) (i:=1+k) (.inl rfl) (.int .u64 (v:Int)))
   have d1:(k:Int)<6:=by omega
   have hnn1:1+k<16:=by omega
   clear hst hv
   go_wp2_with fail
   go_roundw
   case rel=>exact ⟨k+1,by omega,by go_num,HST,HF⟩
   case measure=>simp[intOf];omega
  ·have hke:k=6:=by omega
   subst hke
   have d1:¬((6:Nat):Int)<6:=by omega
   have C5:=Hi (C4.out.fr hf.out (by omega))
   have x6:wr.cell? ⟨W.heap.size,6,none⟩=some (.int .u64 (sm:Int)):=C5.out.cell 6
   have hcc:=ho.out.cellAt 7 (by omega)
   rw[uv_at _ _ (by rw[rwT_len];omega)] at hcc
   have hfz:=ho.out.frozenAt 7
   have hst:=(ho.out.stored 7 (.int .u64 (sm:Int))).1
   rw[uv_set] at hst
   have HST:=Hi hst
   have HB5:=Hi ((HB4.out.trans (hf.out.below HB4.out.size (fun j hj=>by have:j=W.heap.size+1:=hj;omega))).setCell (p:=⟨W.heap.size+1,7,none⟩) (Nat.le_succ _) (.int .u64 (sm:Int)))
   have HSL:=Hi (seal_any (some ⟨W.heap.size+1,0,none⟩) 16 16 ((rwT hd vs 6).set 7 sm) _ (by rw[List.length_set,rwT_len]) (Reads.of_own HST.out) (HWT.out.set 7 _ h7) (by omega))
   rw[HPAD.out hd,←HRT.out] at HSL
   obtain ⟨rw7,hrw7⟩ :∃q,rtW b sq tr ti da ck ar sm=q:=⟨_,rfl⟩
   rw[hrw7] at HSL
   have HRW:=Hi hrw7
   clear hst hrw7 HRT
   go_wp2_with fail
   refine HSL.out.mono ?_
   rintro e w8 ⟨g,rfl,ho8,hb8⟩
   go_wp2_with fail
   go_ret
   exact ⟨g,rfl,by rw[HRW.out];exact own_lower ho8 HB5.out.size,HB5.out.trans (hb8.mono HB5.out.size)⟩
end
end Go.Proofs.YtplhdjdkobddnaaGreat
