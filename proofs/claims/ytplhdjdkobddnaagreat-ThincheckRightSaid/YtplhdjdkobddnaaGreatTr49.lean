/- LawRight29 -/
import Derived.Test.YtplhdjdkobddnaaGreatTr48
set_option linter.unusedVariables false
set_option maxRecDepth 100000
set_option maxHeartbeats 40000000
namespace Go.Proofs.YtplhdjdkobddnaaGreat
section
open Go.RowKit
attribute [local go_sem] Oper.semAt_some
theorem right29_any (A:Option Addr) (c n:Nat) (l:List Int) (w:World) (hN:l.length=n) (hA:Reads w A (iv l)) (hw:I64 l) (hl:n≤c) :
  Calls Tryz.prog 3 #[.slice A n c] w fun e w'=>e=.returned (.bool true)∧Below w.heap.size w w':=by
 have HNW:=Hi (new_any A n c l w hN hA hw hl)
 clear hN hA hw hl
 go_enter Tryz.func3,Tryz.ntmps3
 go_wp2_with fail
 refine HNW.out.mono ?_
 rintro e w1 ⟨rfl,hs1,hb1,hz1⟩
 have HB1:=Hi hb1
 have HZ1:=Hi hz1
 have HS1:=Hi hs1
 clear hs1 hb1 hz1 HNW
 go_wp2_with fail
 refine (n_any w.heap.size 60 _ HS1.out (by omega) (by omega)).mono ?_
 rintro e w2 ⟨xI,rfl,hx1,hx2,hs2,hg2⟩
 obtain ⟨x,rfl⟩ :∃d:Nat,xI=(d:Int):=⟨xI.toNat,by omega⟩
 have HMD:=Hi (made29_any w2 w.heap.size x hs2 (by omega))
 have HG2:=Hi hg2
 have HZ2:Hid (w1.heap.size≤w2.heap.size):=hg2.size
 clear hs2 hg2
 go_wp2_with fail
 refine HMD.out.mono ?_
 rintro e w3 ⟨gw,c3,M,m,rfl,hgw,hmw,hy,hc,hs3,hg3,-⟩
 have HC3:=Hi (thchk_none w3 gw c3 60 m hmw.row hy hc)
 have HB3:Hid (Below w.heap.size w w3):=by
  have h1:=HZ1.out
  have h2:=HB1.out
  have h3:=gb_trans HG2.out hg3
  exact ⟨h3.os.trans h2.os,h3.tape.trans h2.tape,h3.output.trans h2.output,Nat.le_trans h2.size h3.size,fun j hj=>(h3.block j (by omega) (fun e=>by injection e with e;omega)).trans (h2.block j hj)⟩
 clear hmw hy hc hs3 hg3 HMD
 go_wp2_with fail
 refine HC3.out.mono ?_
 rintro e w4 ⟨A4,c4,rfl,hb4⟩
 have HB4:=Hi (HB3.out.trans (hb4.mono HB3.out.size))
 clear hb4
 go_wp2_with fail
 refine (awake29_any _).mono ?_
 rintro e w5 ⟨rfl,hb5⟩
 have HB5:=Hi (HB4.out.trans (hb5.mono HB4.out.size))
 clear hb5
 go_wp2_with fail
 go_ret
 exact ⟨rfl,HB5.out⟩
end
end Go.Proofs.YtplhdjdkobddnaaGreat
