/- Part 33 of the proof about mailboattop.TopOthers. No condition. -/
import Derived.Test.YtfnciigbbolckaaGreatQ00
import Derived.Test.YtfnciigbbolckaaGreatQ04
import Derived.Test.YtfnciigbbolckaaGreatQ32
set_option linter.unusedVariables false
set_option linter.unusedSimpArgs false
set_option maxRecDepth 100000
set_option maxHeartbeats 64000000
namespace Go.Proofs.YtfnciigbbolckaaGreat
open Go Go.RowKit Iv
attribute [local go_sem] Oper.semAt_some
attribute [local go_sem] pw gu B_app pv B_get B_toList
section
def BsP_bkg (l:List Bkg) (x:Bkg) (w:World) (e:Ending) (w':World):Prop:=(∃(k:Nat) (b:Bool),e= .returned (.tuple #[.int .i64 (k:Int),.bool b])∧k≤l.length∧(∀y,0<k→l[k-1]? =some y→cmpB y x<0)∧(∀y,l[k]? =some y→0≤cmpB y x))∧Below w.heap.size w w'
theorem bsr_bkg (l:List Bkg) (x:Bkg) (u:Value) (w:World) (hr:RRow bkgC 4 w w.heap.size u l) (hl:l.length≤600):
  Calls Tryz.prog 70 #[u,.agg #[.int .i64 x.ct,.int .i64 x.bg,.int .i64 x.en,.int .i64 x.tk],.func (.func 68) #[] #[]] w (BsP_bkg l x w):=by
 obtain⟨ua,uc,rfl,h1,h2,-,h4⟩:=hr;unfold maxLen at h2;have H4:=aa h4;have hcall:∀args W,(callFunc 68 args).run Tryz.prog W= .ok (.enter 68 args) W:=fun _ _=>by kernel_rfl
 have hln:l.length≤9223372036854775807:=by omega
 clear h4;go_enter Tryz.func70,Tryz.ntmps70
 go_upto_region 1 with fail
 obtain⟨w1,hw1⟩:=cR (w.alloc (.cells #[.int .i64 x.ct,.int .i64 x.bg,.int .i64 x.en,.int .i64 x.tk] 53))
 rw[hw1];have HB1:Hid (Below w.heap.size w w1):=aa (by rw[←hw1];exact de (ap _ _));have HX1:Hid (w1.heap[w.heap.size]? =some (.cells #[.int .i64 x.ct,.int .i64 x.bg,.int .i64 x.en,.int .i64 x.tk] 53 (0,0))):=aa (by rw[←hw1];exact cW);have z1:w.heap.size<w1.heap.size:=(ai.1 HX1.out).1;obtain⟨Z,hZ⟩:=cR w.heap.size
 have HZ:=aa hZ;rw[hZ]at HB1 HX1 z1 H4 ⊢;clear hw1 hZ;go_wp2_with fail
 go_loopw [9,10] (fun iv jv wr=>∃(i j:Nat),iv= .int .i64 (i:Int)∧jv= .int .i64 (j:Int)∧i≤j∧j≤l.length∧Hid (∀y,0<i→l[i-1]? =some y→cmpB y x<0)∧Hid (∀y,l[j]? =some y→0≤cmpB y x)∧Hid (Below w1.heap.size w1 wr)) (fun iv jv _=>(intOf jv).toNat - (intOf iv).toNat)
 case atStart=>exact⟨0,l.length,rfl,rfl,aE _,aj _,aa (fun y h=>absurd h (by omega)),aa (fun y h=>by simp at h),aa (ap _ _)⟩
 case round=>
  obtain⟨i,j,rfl,rfl,hij,hjl,HI,HJ,HBR⟩:=hrel;have zr:w1.heap.size≤wr.heap.size:=HBR.out.size;have HXr:=aa ((HBR.out.block _ z1).trans HX1.out);have HBW:Hid (Below Z w wr):=aa (HB1.out.trans (HBR.out.mono (by omega)));have zz:Z<wr.heap.size:=by omega
  by_cases hlt:i<j
  ·have i0:(i:Int)<(j:Int):=by omega
   obtain⟨h,hh⟩:∃h,h=(i+j) / 2:=⟨_,rfl⟩
   have hh1:i≤h:=by omega
   have hh2:h<j:=by omega
   have hhe:((i:Int)+(j:Int)) / 2=(h:Int):=by omega
   clear hh;go_upto_region 5 with fail
   obtain⟨bb,o,rfl,hbb,hcc⟩:=H4.out (by omega);obtain⟨y,hy⟩:∃y,l[h]? =some y:=⟨_,am (by omega)⟩
   have hbr:bb<wr.heap.size:=by omega
   have g0:wr.cell? ⟨bb,o+h*4,none⟩=some (.int .i64 y.ct):=(HBW.out.cell (p:=⟨bb,o+h*4,none⟩) hbb).trans (hcc h y hy 0 _ rfl);have g1:wr.cell? ⟨bb,o+h*4+1,none⟩=some (.int .i64 y.bg):=(HBW.out.cell (p:=⟨bb,o+h*4+1,none⟩) hbb).trans (hcc h y hy 1 _ rfl);have g2:wr.cell? ⟨bb,o+h*4+2,none⟩=some (.int .i64 y.en):=(HBW.out.cell (p:=⟨bb,o+h*4+2,none⟩) hbb).trans (hcc h y hy 2 _ rfl);have g3:wr.cell? ⟨bb,o+h*4+3,none⟩=some (.int .i64 y.tk):=(HBW.out.cell (p:=⟨bb,o+h*4+3,none⟩) hbb).trans (hcc h y hy 3 _ rfl);have g4:wr.cell? ⟨bb,o+h*4+3,none⟩=some (.int .i64 y.tk):=(HBW.out.cell (p:=⟨bb,o+h*4+3,none⟩) hbb).trans (hcc h y hy 3 _ rfl);have cx:=fun q=>cU HXr.out q
   have hh3:(h:Int)<(l.length:Int):=by omega
   have hh0:(0:Int)≤(h:Int):=by omega
   have HYH:=aa hy;obtain⟨cv,hcv⟩:=cR (cmpB y x)
   have HCV:=aa hcv;clear hy hcc hcv;refine dd (fun V=>Below (wr).heap.size (wr) V) [0,0,0,0,1,1,3,0] [0,1,2,3,4,5,6,7] (by kernel_rfl) (by kernel_rfl) ?_ ?_
   case refine_1=>exact cZ
   (iterate 6 (first | (refine cX rfl (by decide) (by rfl) (fun w1 hS=>by(try(obtain⟨_,_⟩:=bcell (hS rfl)));go_simp;rfl) ?_;simp only[Act.put,ae,af,ag]) | (refine dm rfl (by decide) (by rfl) ?_;simp only[Act.put,ae,af,ag])))
   (refine di rfl rfl (by rfl) (fun K hK=>?_);go_simp)
   refine(jY y x _).mono ?_
   rw[HCV.out];rintro e wc30 ⟨rfl,hbc30⟩
   (refine hK _ _ ?_;clear hK K;(try simp only[Act.put,ae,af,ag]))
   (iterate 1 (first | (refine cX rfl (by decide) (by rfl) (fun w1 hS=>by(try(obtain⟨_,_⟩:=bcell (hS rfl)));go_simp;rfl) ?_;simp only[Act.put,ae,af,ag]) | (refine dm rfl (by decide) (by rfl) ?_;simp only[Act.put,ae,af,ag])))
   refine du ?_
   have hbz:Below wr.heap.size wr wc30:=dq (bdrew (ap _ _)) hbc30;have HBR2:Hid (Below w1.heap.size w1 wc30):=aa (HBR.out.trans (hbz.mono (by omega)));clear hbz hbc30 g0 g1 g2 g3 g4 cx;by_cases hc:cv<0
   ·have HI2:Hid (∀y,0<h+1→l[h+1-1]? =some y→cmpB y x<0):=aa (fun y' _ hy'=>by
     rw[bZ,HYH.out]at hy';obtain rfl:y=y':=by simpa using hy'
     rw[HCV.out];exact hc)
    go_wp2
    go_roundw
    case rel=>exact⟨h+1,j,by go_num,rfl,by omega,hjl,HI2,HJ,HBR2⟩
    case measure=>simp[intOf];omega
   ·have HJ2:Hid (∀y,l[h]? =some y→0≤cmpB y x):=aa (fun y' hy'=>by
     rw[HYH.out]at hy';obtain rfl:y=y':=by simpa using hy'
     rw[HCV.out];omega)
    have d1:decide (cv<0)=false:=decide_eq_false hc;go_wp2
    go_roundw
    case rel=>exact⟨i,h,rfl,rfl,by omega,by omega,HI,HJ2,HBR2⟩
    case measure=>simp[intOf];omega
  ·obtain rfl:i=j:=by omega
   clear hlt;by_cases hil:i<l.length
   ·obtain⟨bb,o,rfl,hbb,hcc⟩:=H4.out (by omega)
    obtain⟨y,hy⟩:∃y,l[i]? =some y:=⟨_,am (by omega)⟩
    have hbr:bb<wr.heap.size:=by omega
    have g0:wr.cell? ⟨bb,o+i*4,none⟩=some (.int .i64 y.ct):=(HBW.out.cell (p:=⟨bb,o+i*4,none⟩) hbb).trans (hcc i y hy 0 _ rfl);have g1:wr.cell? ⟨bb,o+i*4+1,none⟩=some (.int .i64 y.bg):=(HBW.out.cell (p:=⟨bb,o+i*4+1,none⟩) hbb).trans (hcc i y hy 1 _ rfl);have g2:wr.cell? ⟨bb,o+i*4+2,none⟩=some (.int .i64 y.en):=(HBW.out.cell (p:=⟨bb,o+i*4+2,none⟩) hbb).trans (hcc i y hy 2 _ rfl);have g3:wr.cell? ⟨bb,o+i*4+3,none⟩=some (.int .i64 y.tk):=(HBW.out.cell (p:=⟨bb,o+i*4+3,none⟩) hbb).trans (hcc i y hy 3 _ rfl);have g4:wr.cell? ⟨bb,o+i*4+3,none⟩=some (.int .i64 y.tk):=(HBW.out.cell (p:=⟨bb,o+i*4+3,none⟩) hbb).trans (hcc i y hy 3 _ rfl);have cx:=fun q=>cU HXr.out q
    have hh3:(i:Int)<(l.length:Int):=by omega
    have hh0:(0:Int)≤(i:Int):=by omega
    have d8:decide ((i:Int)<(l.length:Int))=true:=decide_eq_true hh3;obtain⟨cv,hcv⟩:=cR (cmpB y x)
    have HCV:=aa hcv;clear hy hcc hcv;go_upto_region 8 with fail
    refine dd (fun V=>Below (wr).heap.size (wr) V) [0,0,0,0,0,0,0,0,0,1,1,3,0,0,0,0] [0,1,2,3,4,5,6,7,8,9,10,11,12,13,14,15] (by kernel_rfl) (by kernel_rfl) ?_ ?_
    case refine_1=>exact cZ
    (iterate 11 (first | (refine cX rfl (by decide) (by rfl) (fun w1 hS=>by(try(obtain⟨_,_⟩:=bcell (hS rfl)));go_simp;rfl) ?_;simp only[Act.put,ae,af,ag]) | (refine dm rfl (by decide) (by rfl) ?_;simp only[Act.put,ae,af,ag])))
    (refine di rfl rfl (by rfl) (fun K hK=>?_);go_simp)
    refine(jY y x _).mono ?_
    rw[HCV.out];rintro e wc46 ⟨rfl,hbc46⟩
    (refine hK _ _ ?_;clear hK K;(try simp only[Act.put,ae,af,ag]))
    (iterate 4 (first | (refine cX rfl (by decide) (by rfl) (fun w1 hS=>by(try(obtain⟨_,_⟩:=bcell (hS rfl)));go_simp;rfl) ?_;simp only[Act.put,ae,af,ag]) | (refine dm rfl (by decide) (by rfl) ?_;simp only[Act.put,ae,af,ag])))
    refine du ?_
    have HBZ:Hid (Below wr.heap.size wr wc46):=aa (dq (bdrew (ap _ _)) hbc46);clear hbc46 g0 g1 g2 g3 g4 cx;go_wp2
    refine bodyPost_ret (v:=.tuple #[.int .i64 (i:Int),.bool (cv==0)]) (by simp[results,Tryz.results70,go_sem]) rfl ?_
    rw[HZ.out.symm]at HBW;exact⟨⟨i,_,rfl,hjl,HI.out,HJ.out⟩,HBW.out.trans (HBZ.out.mono (by have:=HBW.out.size;omega))⟩
   ·have d8:decide ((i:Int)<(l.length:Int))=false:=decide_eq_false (by omega)
    have hnl:¬((i:Int)<(l.length:Int)):=by omega
    obtain rfl:i=l.length:=by omega
    go_upto_region 8 with fail
    go_quiet (fail)
    go_wp2
    refine bodyPost_ret (v:=.tuple #[.int .i64 (l.length:Int),.bool false]) (by simp[results,Tryz.results70,go_sem]) rfl ?_
    rw[HZ.out.symm]at HBW;exact⟨⟨l.length,_,rfl,hjl,HI.out,HJ.out⟩,HBW.out.trans (by exact⟨rfl,rfl,rfl,aj _,fun _ _=>rfl⟩)⟩
def BsP_hld (l:List Hld) (x:Hld) (w:World) (e:Ending) (w':World):Prop:=(∃(k:Nat) (b:Bool),e= .returned (.tuple #[.int .i64 (k:Int),.bool b])∧k≤l.length∧(∀y,0<k→l[k-1]? =some y→cmpH y x<0)∧(∀y,l[k]? =some y→0≤cmpH y x))∧Below w.heap.size w w'
theorem bsr_hld (l:List Hld) (x:Hld) (u:Value) (w:World) (hr:RRow hldC 5 w w.heap.size u l) (hl:l.length≤600):
  Calls Tryz.prog 60 #[u,.agg #[.int .i64 x.nd,.int .i64 x.fr,.int .i64 x.tt,.int .i64 x.sz,.int .i64 x.tk],.func (.func 61) #[] #[]] w (BsP_hld l x w):=by
 obtain⟨ua,uc,rfl,h1,h2,-,h4⟩:=hr;unfold maxLen at h2;have H4:=aa h4;have hcall:∀args W,(callFunc 61 args).run Tryz.prog W= .ok (.enter 61 args) W:=fun _ _=>by kernel_rfl
 have hln:l.length≤9223372036854775807:=by omega
 clear h4;go_enter Tryz.func60,Tryz.ntmps60
 go_upto_region 1 with fail
 obtain⟨w1,hw1⟩:=cR (w.alloc (.cells #[.int .i64 x.nd,.int .i64 x.fr,.int .i64 x.tt,.int .i64 x.sz,.int .i64 x.tk] 75))
 rw[hw1];have HB1:Hid (Below w.heap.size w w1):=aa (by rw[←hw1];exact de (ap _ _));have HX1:Hid (w1.heap[w.heap.size]? =some (.cells #[.int .i64 x.nd,.int .i64 x.fr,.int .i64 x.tt,.int .i64 x.sz,.int .i64 x.tk] 75 (0,0))):=aa (by rw[←hw1];exact cW);have z1:w.heap.size<w1.heap.size:=(ai.1 HX1.out).1;obtain⟨Z,hZ⟩:=cR w.heap.size
 have HZ:=aa hZ;rw[hZ]at HB1 HX1 z1 H4 ⊢;clear hw1 hZ;go_wp2_with fail
 go_loopw [9,10] (fun iv jv wr=>∃(i j:Nat),iv= .int .i64 (i:Int)∧jv= .int .i64 (j:Int)∧i≤j∧j≤l.length∧Hid (∀y,0<i→l[i-1]? =some y→cmpH y x<0)∧Hid (∀y,l[j]? =some y→0≤cmpH y x)∧Hid (Below w1.heap.size w1 wr)) (fun iv jv _=>(intOf jv).toNat - (intOf iv).toNat)
 case atStart=>exact⟨0,l.length,rfl,rfl,aE _,aj _,aa (fun y h=>absurd h (by omega)),aa (fun y h=>by simp at h),aa (ap _ _)⟩
 case round=>
  obtain⟨i,j,rfl,rfl,hij,hjl,HI,HJ,HBR⟩:=hrel;have zr:w1.heap.size≤wr.heap.size:=HBR.out.size;have HXr:=aa ((HBR.out.block _ z1).trans HX1.out);have HBW:Hid (Below Z w wr):=aa (HB1.out.trans (HBR.out.mono (by omega)));have zz:Z<wr.heap.size:=by omega
  by_cases hlt:i<j
  ·have i0:(i:Int)<(j:Int):=by omega
   obtain⟨h,hh⟩:∃h,h=(i+j) / 2:=⟨_,rfl⟩
   have hh1:i≤h:=by omega
   have hh2:h<j:=by omega
   have hhe:((i:Int)+(j:Int)) / 2=(h:Int):=by omega
   clear hh;go_upto_region 5 with fail
   obtain⟨bb,o,rfl,hbb,hcc⟩:=H4.out (by omega);obtain⟨y,hy⟩:∃y,l[h]? =some y:=⟨_,am (by omega)⟩
   have hbr:bb<wr.heap.size:=by omega
   have g0:wr.cell? ⟨bb,o+h*5,none⟩=some (.int .i64 y.nd):=(HBW.out.cell (p:=⟨bb,o+h*5,none⟩) hbb).trans (hcc h y hy 0 _ rfl);have g1:wr.cell? ⟨bb,o+h*5+1,none⟩=some (.int .i64 y.fr):=(HBW.out.cell (p:=⟨bb,o+h*5+1,none⟩) hbb).trans (hcc h y hy 1 _ rfl);have g2:wr.cell? ⟨bb,o+h*5+2,none⟩=some (.int .i64 y.tt):=(HBW.out.cell (p:=⟨bb,o+h*5+2,none⟩) hbb).trans (hcc h y hy 2 _ rfl);have g3:wr.cell? ⟨bb,o+h*5+3,none⟩=some (.int .i64 y.sz):=(HBW.out.cell (p:=⟨bb,o+h*5+3,none⟩) hbb).trans (hcc h y hy 3 _ rfl);have g4:wr.cell? ⟨bb,o+h*5+4,none⟩=some (.int .i64 y.tk):=(HBW.out.cell (p:=⟨bb,o+h*5+4,none⟩) hbb).trans (hcc h y hy 4 _ rfl);have cx:=fun q=>cU HXr.out q
   have hh3:(h:Int)<(l.length:Int):=by omega
   have hh0:(0:Int)≤(h:Int):=by omega
   have HYH:=aa hy;obtain⟨cv,hcv⟩:=cR (cmpH y x)
   have HCV:=aa hcv;clear hy hcc hcv;refine dd (fun V=>Below (wr).heap.size (wr) V) [0,0,0,0,1,1,3,0] [0,1,2,3,4,5,6,7] (by kernel_rfl) (by kernel_rfl) ?_ ?_
   case refine_1=>exact cZ
   (iterate 6 (first | (refine cX rfl (by decide) (by rfl) (fun w1 hS=>by(try(obtain⟨_,_⟩:=bcell (hS rfl)));go_simp;rfl) ?_;simp only[Act.put,ae,af,ag]) | (refine dm rfl (by decide) (by rfl) ?_;simp only[Act.put,ae,af,ag])))
   (refine di rfl rfl (by rfl) (fun K hK=>?_);go_simp)
   refine(jZ y x _).mono ?_
   rw[HCV.out];rintro e wc30 ⟨rfl,hbc30⟩
   (refine hK _ _ ?_;clear hK K;(try simp only[Act.put,ae,af,ag]))
   (iterate 1 (first | (refine cX rfl (by decide) (by rfl) (fun w1 hS=>by(try(obtain⟨_,_⟩:=bcell (hS rfl)));go_simp;rfl) ?_;simp only[Act.put,ae,af,ag]) | (refine dm rfl (by decide) (by rfl) ?_;simp only[Act.put,ae,af,ag])))
   refine du ?_
   have hbz:Below wr.heap.size wr wc30:=dq (bdrew (ap _ _)) hbc30;have HBR2:Hid (Below w1.heap.size w1 wc30):=aa (HBR.out.trans (hbz.mono (by omega)));clear hbz hbc30 g0 g1 g2 g3 g4 cx;by_cases hc:cv<0
   ·have HI2:Hid (∀y,0<h+1→l[h+1-1]? =some y→cmpH y x<0):=aa (fun y' _ hy'=>by
     rw[bZ,HYH.out]at hy';obtain rfl:y=y':=by simpa using hy'
     rw[HCV.out];exact hc)
    go_wp2
    go_roundw
    case rel=>exact⟨h+1,j,by go_num,rfl,by omega,hjl,HI2,HJ,HBR2⟩
    case measure=>simp[intOf];omega
   ·have HJ2:Hid (∀y,l[h]? =some y→0≤cmpH y x):=aa (fun y' hy'=>by
     rw[HYH.out]at hy';obtain rfl:y=y':=by simpa using hy'
     rw[HCV.out];omega)
    have d1:decide (cv<0)=false:=decide_eq_false hc;go_wp2
    go_roundw
    case rel=>exact⟨i,h,rfl,rfl,by omega,by omega,HI,HJ2,HBR2⟩
    case measure=>simp[intOf];omega
  ·obtain rfl:i=j:=by omega
   clear hlt;by_cases hil:i<l.length
   ·obtain⟨bb,o,rfl,hbb,hcc⟩:=H4.out (by omega)
    obtain⟨y,hy⟩:∃y,l[i]? =some y:=⟨_,am (by omega)⟩
    have hbr:bb<wr.heap.size:=by omega
    have g0:wr.cell? ⟨bb,o+i*5,none⟩=some (.int .i64 y.nd):=(HBW.out.cell (p:=⟨bb,o+i*5,none⟩) hbb).trans (hcc i y hy 0 _ rfl);have g1:wr.cell? ⟨bb,o+i*5+1,none⟩=some (.int .i64 y.fr):=(HBW.out.cell (p:=⟨bb,o+i*5+1,none⟩) hbb).trans (hcc i y hy 1 _ rfl);have g2:wr.cell? ⟨bb,o+i*5+2,none⟩=some (.int .i64 y.tt):=(HBW.out.cell (p:=⟨bb,o+i*5+2,none⟩) hbb).trans (hcc i y hy 2 _ rfl);have g3:wr.cell? ⟨bb,o+i*5+3,none⟩=some (.int .i64 y.sz):=(HBW.out.cell (p:=⟨bb,o+i*5+3,none⟩) hbb).trans (hcc i y hy 3 _ rfl);have g4:wr.cell? ⟨bb,o+i*5+4,none⟩=some (.int .i64 y.tk):=(HBW.out.cell (p:=⟨bb,o+i*5+4,none⟩) hbb).trans (hcc i y hy 4 _ rfl);have cx:=fun q=>cU HXr.out q
    have hh3:(i:Int)<(l.length:Int):=by omega
    have hh0:(0:Int)≤(i:Int):=by omega
    have d8:decide ((i:Int)<(l.length:Int))=true:=decide_eq_true hh3;obtain⟨cv,hcv⟩:=cR (cmpH y x)
    have HCV:=aa hcv;clear hy hcc hcv;go_upto_region 8 with fail
    refine dd (fun V=>Below (wr).heap.size (wr) V) [0,0,0,0,0,0,0,0,0,1,1,3,0,0,0,0] [0,1,2,3,4,5,6,7,8,9,10,11,12,13,14,15] (by kernel_rfl) (by kernel_rfl) ?_ ?_
    case refine_1=>exact cZ
    (iterate 11 (first | (refine cX rfl (by decide) (by rfl) (fun w1 hS=>by(try(obtain⟨_,_⟩:=bcell (hS rfl)));go_simp;rfl) ?_;simp only[Act.put,ae,af,ag]) | (refine dm rfl (by decide) (by rfl) ?_;simp only[Act.put,ae,af,ag])))
    (refine di rfl rfl (by rfl) (fun K hK=>?_);go_simp)
    refine(jZ y x _).mono ?_
    rw[HCV.out];rintro e wc46 ⟨rfl,hbc46⟩
    (refine hK _ _ ?_;clear hK K;(try simp only[Act.put,ae,af,ag]))
    (iterate 4 (first | (refine cX rfl (by decide) (by rfl) (fun w1 hS=>by(try(obtain⟨_,_⟩:=bcell (hS rfl)));go_simp;rfl) ?_;simp only[Act.put,ae,af,ag]) | (refine dm rfl (by decide) (by rfl) ?_;simp only[Act.put,ae,af,ag])))
    refine du ?_
    have HBZ:Hid (Below wr.heap.size wr wc46):=aa (dq (bdrew (ap _ _)) hbc46);clear hbc46 g0 g1 g2 g3 g4 cx;go_wp2
    refine bodyPost_ret (v:=.tuple #[.int .i64 (i:Int),.bool (cv==0)]) (by simp[results,Tryz.results60,go_sem]) rfl ?_
    rw[HZ.out.symm]at HBW;exact⟨⟨i,_,rfl,hjl,HI.out,HJ.out⟩,HBW.out.trans (HBZ.out.mono (by have:=HBW.out.size;omega))⟩
   ·have d8:decide ((i:Int)<(l.length:Int))=false:=decide_eq_false (by omega)
    have hnl:¬((i:Int)<(l.length:Int)):=by omega
    obtain rfl:i=l.length:=by omega
    go_upto_region 8 with fail
    go_quiet (fail)
    go_wp2
    refine bodyPost_ret (v:=.tuple #[.int .i64 (l.length:Int),.bool false]) (by simp[results,Tryz.results60,go_sem]) rfl ?_
    rw[HZ.out.symm]at HBW;exact⟨⟨l.length,_,rfl,hjl,HI.out,HJ.out⟩,HBW.out.trans (by exact⟨rfl,rfl,rfl,aj _,fun _ _=>rfl⟩)⟩
end
end Go.Proofs.YtfnciigbbolckaaGreat
