/- The law's bodies as abstract code, held against the program by the kernel, above the upper table. No conditions. -/
import Derived.Test.YthnlilndompbaaaGreatDoorT1XI
open List
set_option linter.all false
set_option maxRecDepth 100000
set_option maxHeartbeats 16000000
namespace Go.Av
open Go.Proofs Go.Nt
variable{A:List Pt}{Y:FuncId}{b:List Tk}{bh:List AV}{gi:AV×LL}{k:Int}
variable [Mx]
def ZA{bu fq:List Tk}(h:tks bu=tks fq):bu=fq:=by
 unfold tks at h;refine (map_inj_right (f:=tkR) (λx y d=>?_)).1 h;obtain⟨a,b,c⟩:=x;obtain⟨e,g,c'⟩:=y;simpa [tkR] using d
def mc{g:List Pt}(h:pts A=pts g):A=g:=by
 unfold pts at h;refine (map_inj_right (f:=ptR) (λx y d=>?_)).1 h;obtain⟨a,b,c⟩:=x;obtain⟨e,i,c'⟩:=y;simpa [ptR] using d
def DS(fm:Int)(f:List Tk):Prop:=fm=1/\∃ s:Bs,f=[(1,s,0)]/\s≠[]/\s.length<24/\∀ c∈s,c≠60/\c≠38/\c≠123
def YV(ps:List Pt):Prop:=ps.length<=100000/\(btF ps).length<=100000000
open Classical in
noncomputable def pr(fm:Int)(args:List AV)(sh:LL):Option (AV×LL):=
 if h:sh=[]/\∃ f,args=[.sl .no 3 (tks f)]/\DS fm f then some (.tup [.str (sP fm h.2.choose),.int .i64 0],[]) else none
open Classical in
noncomputable def qx(args:List AV)(sh:LL):Option (AV×LL):=
 if h:sh=[]/\∃ p:Int×List Pt,args=[.agg [.int .i64 p.1,.sl .no 3 (pts p.2)]]/\YV p.2 then some (.str (btF h.2.choose.2),[]) else none
def Cw(args:List AV)(sh:LL):Option (AV×LL):=match args,sh with
 | [.str s,.str t],[]=>if s.length<=4000000000 then some (.int .i64 (fnd t s 0),[]) else none
 | _,_=>none
def qr(args:List AV)(sh:LL):Option (AV×LL):=match args,sh with
 | [.sl .no 1 a],[]=>match FM a with
  | some r=>if a≠[]/\a.length<=1000/\r.length<=1000000/\∀ e∈r,e.length=3 then some (.sl .no 3 r,[]) else none
  | none=>none
 | _,_=>none
def pq(h:DS k b):pr k [.sl .no 3 (tks b)] []=some (.tup [.str (sP k b),.int .i64 0],[]):=by
 unfold pr;have q:([]:LL)=[]/\∃ g,[AV.sl .no 3 (tks b)]=[.sl .no 3 (tks g)]/\DS k g:=⟨rfl,b,rfl,h⟩
 rw[dif_pos q];have a:=q.2.choose_spec.1
 have:b=q.2.choose:=ZA (by simpa using a)
 rw[<- this]
def FN(h:YV A):qx [.agg [.int .i64 k,.sl .no 3 (pts A)]] []=some (.str (btF A),[]):=by
 unfold qx;have q:([]:LL)=[]/\∃ p:Int×List Pt,[AV.agg [.int .i64 k,.sl .no 3 (pts A)]]=[.agg [.int .i64 p.1,.sl .no 3 (pts p.2)]]/\YV p.2:=⟨rfl,(k,A),rfl,h⟩
 rw[dif_pos q];have a:=q.2.choose_spec.1;generalize q.2.choose=z at a ⊢;simp only[aa1,AV.agg.injEq,AV.int.injEq,AV.sl.injEq,tn,aa9] at a;rw[<- mc a.2]
def PKz:Nat->AK
 | 0=>.alloc [.int .i64 0,.int .i64 0]
 | 1=>.slc true 0 true true
 | 2=>.slc true 0 true false
 | 3=>.isn
 | 4=>.mks 3 [.bool false,.str [],.str []] 0 []
 | 5=>.appS false 3 40
 | 6=>.alloc [.int .i64 0,.sl .full 3 []]
 | 7=>.build [.int .i64 0,.sl .full 3 []] []
 | 8=>.build [.int .i64 0,.sl .full 3 []] [(0,1),(1,1)]
 | 9=>.box 2
 | 10=>.mks 1 [.sl .full 3 []] 2 [0,1]
 | 11=>.alloc zT
 | _=>.mv
def PAz:Nat->AR
 | 0=>(ic 0)
 | 1=>(ic 1)
 | 2=>.c (.sl .full 3 [])
 | 3=>(ic 2)
 | 4=>.c (.str [])
 | 5=>.c (.str [60,47])
 | 6=>.c (.str [62])
 | 7=>bT
 | 8=>(ic 11)
 | 9=>(ic 65536)
 | 10=>(ic 3)
 | 11=>bF
 | 12=>.c (.int .u8 60)
 | 13=>.c (.str [60,33,45,45])
 | 14=>(ic 4)
 | 15=>.c (.str [45,45,62])
 | 16=>(ic 7)
 | _=>.t 0
attribute [go_sem] PKz.eq_1 PKz.eq_2 PKz.eq_3 PKz.eq_4 PKz.eq_5 PKz.eq_6 PKz.eq_7 PKz.eq_8 PKz.eq_9 PKz.eq_10 PKz.eq_11 PKz.eq_12 PAz.eq_1 PAz.eq_2 PAz.eq_3 PAz.eq_4 PAz.eq_5 PAz.eq_6 PAz.eq_7 PAz.eq_8 PAz.eq_9 PAz.eq_10 PAz.eq_11 PAz.eq_12 PAz.eq_13 PAz.eq_14 PAz.eq_15 PAz.eq_16 PAz.eq_17
def F13:AFun:=⟨1,false,zBT (dD 34 0xcea3066e0b690b085819a5ea1a7909c70317037406bf580605610380aba5869cb78f) PKz PAz nz _,[.tmp 2]⟩
def Ff:AFun:=⟨1,true,zBT (dD 29 0xad05c86907066196007404100586588b8f05d7ce77106063025e03b78f) PKz PAz nz _,[.tmpD 2]⟩
def Ft:AFun:=⟨2,false,zBT (dD 129 0xa17718006759605905001b050275e11a19986c07741887d9031557171716d216050275e106170574071015dc581504145f0014c60613a06b10000d036004121711d2100789ec0d940d7210fe0c0a0f0e02287901740db2d90c5b59605905d0050275047b07100b86580b900991f6090127dd089c07065a596059600610d7b4059b) PKz PAz nz _,[.cell 4 true 2,.tmp 5,.tmp 6]⟩
def BM:ACode:=zBT (dD 244 0x1e9e1d51490a5f4abd1d51c8140518515d1c51110a1c51cf1b5119c0841a5162131114a80f1851870715120c0c516e1751100a17510dc1165115c1141714510f510e5103016c1351cf125110c084115162131114cb0f1711170e17100c510a0dd9160b0c510bac0b5109e051090275080815170b0181b2ac04580aac09515f7864065c150851a013085107514f074f7007be0651140a4f944f72065170514e859e6433790451cf0364c0841217037451620411059d4fd0ca034b574e14027513084b12c5101313044d01810d4a48020284494b87149bc24bd4494ac34a65120c7c76087c1615085107514f074f001314044ad006) PKz PAz nz _
def P18:List ACode:=[
(.reg false [4,8] [oL 4 4 (.box 2) [.t 0],oL 8 8 (.alloc [.int .i64 0,.sl .full 3 []]) [],zi 9 0] [9,0]),
(.reg false [10] [op 24 (.build [.int .i64 0,.sl .full 3 []] []) [],oL 10 10 (.alloc [.int .i64 0,.sl .full 3 []]) [],tL 10 (.st 2) [.t 10,.t 24]] [24]),
(sq (rg [oL 25 4 (.ld true 2) [.t 4],o1 26 (.call 48) 25,mv 11 26] [25,26])<|
  sq (rg [mv 27 11,op 28 bN [.t 27,ic 0]] [27])<|
  cj 28 (sq (rg [oL 29 10 (.ld true 2) [.t 10],mv 30 11,tL 8 (.st 2) [.t 8,.t 29],mv 9 30] [29,30,10,11])<|
  .ret)
  sk),
(rg [oL 32 4 (.ld true 2) [.t 4],mv 33 1,o2 34 (.call 16) 32 33,mv 31 34,ox 35 0 31,ox 36 1 31,mO 12 35,mv 13 36] [32,33,34,31,35,36]),
(sq (rg [mv 37 13,op 38 bN [.t 37,ic 0]] [37])<|
  cj 38 (sq (rg [oL 39 10 (.ld true 2) [.t 10],mv 40 13,tL 8 (.st 2) [.t 8,.t 39],mv 9 40] [39,40,10,13])<|
  .ret)
  sk),
(sq (rg [mv 41 3,o1 42 lF 41,mv 43 2,o1 44 lF 43,o2 45 bN 42 44,mv 46 45,mG 47 2 46 false,mG 48 12 46 false,oG 49 (.call 45) [.t 48] 46 false,oG 50 (.call 49) [.t 47,.t 49] 46 false,oG 51 (.un .not) [.t 50] 46 false,op 52 .pick [.t 46,bT,.t 51]] (rn 41 11 []))<|
  cj 52 (sq (rg [oL 53 10 (.ld true 2) [.t 10],tL 8 (.st 2) [.t 8,.t 53],zi 9 1] [53,10])<|
  .ret)
  sk),
(rg [(oF 54 1 4),oL 55 4 ld1 [.t 54],mv 56 1,o2 57 (.ia 3) 55 56,(oF 58 2 57),o1 59 ld1 58,mv 14 59] (rn 54 6 [])),
(rg [(oF 61 0 4),oL 62 4 ld1 [.t 61],mv 63 14,o2 64 (.call 50) 62 63,mv 60 64,ox 65 0 60,ox 66 1 60,mO 15 65,mv 13 66] [61,62,63,64,60,65,66]),
(sq (rg [mv 67 13,op 68 bN [.t 67,ic 0]] [67])<|
  cj 68 (sq (rg [oL 69 10 (.ld true 2) [.t 10],mv 70 13,tL 8 (.st 2) [.t 8,.t 69],mv 9 70] [69,70,10,13])<|
  .ret)
  sk),
(rg [op 16 .mv [.c (.str [])],zi 17 0] []),
(sq (rg [mv 71 2,o1 72 lF 71,zi 73 0] [])<|
  .block 0 (BM)),
(rg [mv 110 16,mv 111 14,mv 112 17,o2 113 (.slc true 0 true false) 111 112,o2 114 bA 110 113,mv 16 114] (rn 110 5 [14,17])),
(rg [(oF 116 0 4),oL 117 4 ld1 [.t 116],mv 118 16,o2 119 (.call 41) 117 118,mv 115 119,ox 120 0 115,ox 121 1 115,mO 22 120,mv 13 121] [116,117,118,119,115,120,121]),
(sq (rg [mv 122 13,op 123 bN [.t 122,ic 0]] [122])<|
  cj 123 (sq (rg [oL 124 10 (.ld true 2) [.t 10],mv 125 13,tL 8 (.st 2) [.t 8,.t 124],mv 9 125] [124,125,10,13])<|
  .ret)
  sk),
(sq (rg [mv 126 22,mv 127 12,mv 128 2,mv 129 3,op 130 (.call 53) [.t 127,.t 128,.t 129],o1 131 (.call 13) 130,o2 132 (.call 52) 126 131,o1 133 (.un .not) 132] (rn 126 7 [22,12,2,3]))<|
  cj 133 (sq (rg [oL 134 10 (.ld true 2) [.t 10],tL 8 (.st 2) [.t 8,.t 134],zi 9 11] [134,10])<|
  .ret)
  sk),
(.reg true [23] [(oF 135 0 4),oL 136 4 ld1 [.t 135],(oF 137 1 4),oL 138 4 ld1 [.t 137],oS 139 (.call 54) [.t 138],op 140 (.buildR [.int .i64 0,.sl .full 3 []] [(0,1),(1,1)]) [.t 136,.t 139],oL 23 23 (.alloc [.int .i64 0,.sl .full 3 []]) [],tL 23 (.st 2) [.t 23,.t 140]] (rn 135 6 [4])),
(rg [(oF 141 1 23),oL 142 23 ld1 [.t 141],mv 143 1,mv 144 16,o2 145 (.ia 3) 142 143,(oF 146 2 145),tS (.st 1) [.t 146,.t 144]] (rn 141 6 [1,16]))]
def R18:ACode:=
  sq (sq (rg [oL 147 23 (.ld true 2) [.t 23],o1 148 (.call 19) 147,o1 149 lX 148,op 150 bG [.t 149,ic 65536]] [147,148,149])<|
  cj 150 (sq (rg [oL 151 10 (.ld true 2) [.t 10],tL 8 (.st 2) [.t 8,.t 151],zi 9 3] [151,10])<|
  .ret)
  sk)<|
  sq (rg [oL 152 23 (.ld true 2) [.t 23],tL 8 (.st 2) [.t 8,.t 152],zi 9 0] [152,23])<|
  .ret
def To:AFun:={ nargs:=4,keep:=false,res:=[.cell 8 true 2,.tmp 9],body:=wC P18 R18 }
def Fi:AFun:=⟨2,false,zBT (dD 105 0x161165d1a1719171804e8ec189418720d17cebc0116a2d961115d151714171304f5ec139413720d1277bcdea25810e111a50f0a670873108a01610a5d0e170d170c047dec0c940c720d0bb7bc010aa2580990db080a7273098a705bd3ea5e03045959606602826e58) PKz PAz nz _,[.tmp 4,.tmp 5,.tmp 6]⟩
def Fh:AFun:=⟨1,false,zBT (dD 139 0x5f008f59088f1d04d1060913861c83166f1ba92a121a18020b642a1219622af502ad2a1217622a031304ad2a1214740014c60513b25ed610e9050b861217111711040202587b06100303040bec0b940b7210feb20f0d020f790ef5796981de0c62de029d0b000d045b080357578f7603065709f6080127790762de029d06865e775a665b09105b0402029b) PKz PAz nz _,[.tmp 2]⟩
def Fg:AFun:=⟨2,false,zBT (dD 90 0xb704135d16171590159415720d14debcf587d9d10f5d12171190119411720d100110bca987580e04070fe40a6707730e8ab704095d0c170b900b940b720d0aa9bcdb8758080409a1f75f0773088a705bdcea5e06055a6604828a) PKz PAz nz _,[.tmp 4,.tmp 5]⟩
def tF:ACode:=zBT (dD 142 0x290128110a5f12bd28c80b28270327080a27620a110bad266ef70c081e6e25070125210213bc24cf2322e6f4ed201f0213bcfa071eb1ca5c1e1d170574061d171c0bab9417721c001b160a1b19180316791a620a110bcb087417b25e1357160b0275a21309c5100a761501810d12100202841113870b9bc213d41112c312650b1e000d0c1e1d170574e004120087) PKz PAz nz _
def sz:AFun:=⟨3,false,zBT (dD 77 0x10e0803316e33060133320213bc0d170731a609a931302a052ad330172f0d012a942a722f002e290a2e2c2b0316792d012d02ae08742ab258aa025f6610c7a99c885908655d59076507b7b365) PKz PAz (λi=>match i with | _=>tF) _,[.tmp 6]⟩
def gO:ACode:=zBT (dD 372 0x9060251c85163075103c10651ef0670c1045105006ada0302510aa70c02c051630b015192f24b005a514e4d4c042964104f0121bc0617fa0317054b87584b4a024a060a5f4a6a06498c5701494803b84817029f487d6047ba47040b465a0046a40a45a0570f0e04416e44174317029f0e1743426a0d170341bf584104405f0040c60e3f920d033c00370537863e173d173c0c0137ec379437723c003b360a3b80bc3a393803016cfa0374370a0c5e00363502350b0a357d6034c93404335f0033a40a32a0032f57310b0a31306a0a17032fa60728572eb22e2b0228bc06002d6a2c05006ada2a2902026c037428a2d90228042701b627950826a00803235d256325246afb0323a6572377662217029f0322a62290210221f60920a0031d001904196e1f171e171df719ec199419721d001c180a1c0127bc1b1a02026c037419e05880005a18b414571715a416f90314f3193f6e0c6e3c003705378632d0032fe90c23700303206e076e1d001904198614001206) PKz PAz nz _
def Fe:AFun:=⟨1,false,zBT (dD 70 0xa30a5109516759606609c0099e2a6410050851baaa6700b36514130213d2130126641000128c590a596066029f035812041110af0011af5c107d600f9cd65a596066029f0358) PKz PAz (λi=>match i with | _=>gO) _,[.tmp 2,.tmp 3,.tmp 4]⟩
def Fd:AFun:=⟨2,false,zBT (dD 26 0x16905056e0904db013f7908013bbc0706916cab70875805b793) PKz PAz nz _,[.tmp 4]⟩
def vX:AFun:=⟨1,false,zBT (dD 216 0x1a7245d2a1727172491672a952962061107cb27013abc2662061107a80224b2ca5724230223170466220276170222ba22e1195721831c6f20a936121f01396436121e013a6436121d6236061307ad36121a171af60419b15e771600141615051890179117079a067b0b1006060414ec14941472160015130a15b752dd14b2079be5040f5d1217046610918812915c05171000106a050fbf58770c5d0ed20f000e0228bc0e000d02a5600ca60c040b01600b6952dd0aa05907660466019f0358760908020c78c688088e60079c0302570b660459609f0358) PKz PAz nz _,[.tmp 2,.tmp 3,.tmp 4]⟩
def Mt:jF Tryz.prog 18 To=true:=by kernel_rfl
def SB:Tl:=[(13,F13),(54,Ff),(15,Ft),(40,Fi),(48,Fh),(51,Fg),(53,sz),(82,Fe),(99,Fd),(119,vX)]
def yl:okT SB=true:=by kernel_rfl
def Yg:Tl:=SB
def T10(f:FuncId):Option AFun:=Yg.lookup f
def X0:∀ f F,T10 f=some F->jF Tryz.prog f F=true:=λ_ _ h=>NM (yl) h
noncomputable def B10:aP:=λf args sh=>match f with
 | 13=>none
 | 54=>none
 | 15=>none
 | 40=>none
 | 48=>none
 | 51=>none
 | 53=>none
 | 82=>none
 | 99=>none
 | 119=>none
 | 120=>Cw args sh
 | 19=>qx args sh
 | 95=>pr 1 args sh
 | 139=>qr args sh
 | f=>G9 f args sh
noncomputable abbrev G10:aP:=Gx B10 T10
def iJ{c:LL}(h:G9 Y bh c=some gi)(a:B10 Y bh c=G9 Y bh c):G10 Y bh c=some gi:=f9 (a.trans h)
end Go.Av
