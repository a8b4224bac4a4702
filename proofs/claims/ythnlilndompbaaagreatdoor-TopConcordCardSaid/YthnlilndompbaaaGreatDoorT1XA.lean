/- Functions walked, and plain facts. No conditions. -/
import Derived.Test.YthnlilndompbaaaGreatDoorT1Ev1to3
import Derived.Attr
open List
set_option linter.all false
set_option maxRecDepth 100000
set_option maxHeartbeats 16000000
namespace Go.Av
abbrev NL:=List Nat
def nm:NL->Nat×NL
 | a::b::l=>if a<80 then (a,b::l) else ((a-80)*80+b,l)
 | [a]=>(a,[])
 | []=>(0,[])
def rnx:Nat->Nat->NL->NL
 | 0,_,x=>x
 | k+1,a,x=>a::rnx k (a+1) x
def nmr:Nat->NL->NL×NL
 | 0,l=>([],l)
 | n+1,l=>match nm l with
  | (0,r)=>match nm r with
   | (a,r)=>match nm r with
    | (k,r)=>match nmr n r with
     | (x,r)=>(rnx k a x,r)
  | (a+1,r)=>match nmr n r with
   | (x,r)=>(a::x,r)
def bn:Nat->BinOp
 | 0=>.add | 1=>.sub | 2=>.mul | 3=>.quo | 4=>.rem | 5=>.eql | 6=>.neq | 7=>.lss | 8=>.leq | 9=>.gtr | 10=>.geq | _=>.and
def dK(a:Nat->AK)(l:NL):AK×NL:=match nm l with
 | (k,r)=>match nm r with
  | (p,q)=>match k with
   | 0=>(.mv,r) | 1=>(.mvo,r) | 2=>(.call p,q) | 3=>(.fa p,q) | 4=>(.ia p,q) | 5=>(.ld false p,q) | 6=>(.ld true p,q) | 7=>(.st p,q) | 8=>(.ext p,q) | 9=>(.bin (bn p),q)
   | 10=>(.pick,r) | 11=>(.len false,r) | 12=>(.len true,r) | 13=>(.nilc,r) | 14=>(.ixs,r) | 15=>(.un .not,r) | _=>(a p,q)
def dA(pa:Nat->AR)(l:NL):AR×NL:=match nm l with
 | (0,r)=>match nm r with
  | (p,q)=>(pa p,q)
 | (n+1,r)=>(.t n,r)
def dAs(pa:Nat->AR):Nat->NL->List AR×NL
 | 0,l=>([],l)
 | n+1,l=>match dA pa l with
  | (a,r)=>match dAs pa n r with
   | (x,r)=>(a::x,r)
def dKA(a:Nat->AK)(pa:Nat->AR)(l:NL):AK×List AR×NL:=match dK a l with
 | (k,r)=>match nm r with
  | (n,r)=>match dAs pa n r with
   | (x,r)=>(k,x,r)
def gd(n:Nat):Option (Nat×Bool):=some (n / 2,n % 2==1)
def fd(z:Nat)(l:NL):Nat×Nat×NL:=match nm l with
 | (f,r)=>if 13<=f then (f-13,z+1,r) else if f=7\/f=8\/f=9\/f=12 then (f,z,r) else match nm r with
  | (d,r)=>(f,d,r)
def dO(a:Nat->AK)(pa:Nat->AR)(z:Nat)(l:NL):AOper×Nat×NL:=match fd z l with
 | (f,d,r)=>match f with
  | 0=>match dKA a pa r with | (k,x,r)=>(⟨some d,k,x,.none,none,none⟩,d,r)
  | 1=>match nm r with | (s,r)=>(⟨some d,.mvo,[.t s],.none,some s,none⟩,d,r)
  | 2=>match nm r with | (s,r)=>match dKA a pa r with | (k,x,r)=>(⟨some d,k,x,.none,some s,none⟩,d,r)
  | 3=>match dKA a pa r with | (k,x,r)=>(⟨some d,k,x,.sh,none,none⟩,d,r)
  | 4=>match nm r with | (s,r)=>match dKA a pa r with | (k,x,r)=>(⟨some d,k,x,.lo s,none,none⟩,d,r)
  | 5=>match nm r with | (g,r)=>match dKA a pa r with | (k,x,r)=>(⟨some d,k,x,.none,none,gd g⟩,d,r)
  | 6=>match nm r with | (s,r)=>match nm r with | (g,r)=>match dKA a pa r with | (k,x,r)=>(⟨some d,k,x,.lo s,none,gd g⟩,d,r)
  | 7=>match dKA a pa r with | (k,x,r)=>(⟨none,k,x,.sh,none,none⟩,d,r)
  | 8=>match nm r with | (s,r)=>match dKA a pa r with | (k,x,r)=>(⟨none,k,x,.lo s,none,none⟩,d,r)
  | 9=>(⟨none,.mv,[],.none,none,none⟩,d,r)
  | 10=>match nm r with | (s,r)=>(⟨some d,.mv,[.t s],.none,none,none⟩,d,r)
  | 11=>match nm r with | (s,r)=>match nm r with | (g,r)=>(⟨some d,.mv,[.t s],.none,none,gd g⟩,d,r)
  | _=>match nm r with | (y,r)=>match dKA a pa r with | (k,x,r)=>match nm r with | (m,r)=>match nm r with | (e,r)=>match nm r with | (g,r)=>(⟨if y=0 then none else some (y-1),k,x,if m=0 then .none else if m=1 then .sh else .lo (m-2),if e=0 then none else some (e-1),if g=0 then none else gd (g-1)⟩,d,r)
def dOs(b:Nat->AK)(pa:Nat->AR):Nat->Nat->NL->List AOper×NL
 | 0,_,l=>([],l)
 | n+1,z,l=>match dO b pa z l with
  | (a,z,r)=>match dOs b pa n z r with
   | (x,r)=>(a::x,r)
def dC(e:Nat->AK)(pa:Nat->AR)(pl:Nat->ACode):Nat->NL->ACode×NL
 | 0,l=>(.skip,l)
 | f+1,l=>match nm l with
  | (c,r)=>match c with
   | 0=>(.skip,r)
   | 1=>(.ret,r)
   | 2=>match nm r with | (i,r)=>(.exit i,r)
   | 3=>match dC e pa pl f r with | (a,r)=>match dC e pa pl f r with | (b,r)=>(.seq a b,r)
   | 4=>match dA pa r with | (x,r)=>match dC e pa pl f r with | (a,r)=>match dC e pa pl f r with | (b,r)=>(.cond x a b,r)
   | 5=>match nm r with | (i,r)=>match dC e pa pl f r with | (a,r)=>(.block i a,r)
   | 6=>match nm r with | (n,r)=>match nmr n r with | (k,r)=>match dC e pa pl f r with | (a,r)=>(.loop k a,r)
   | 7=>match nm r with | (n,r)=>match dOs e pa n 0 r with | (x,r)=>match nm r with | (n,r)=>match nmr n r with | (k,r)=>(.reg false [] x k,r)
   | 8=>match nm r with | (d,r)=>match nm r with | (n,r)=>match nmr n r with | (al,r)=>match nm r with | (n,r)=>match dOs e pa n 0 r with | (x,r)=>match nm r with | (n,r)=>match nmr n r with | (k,r)=>(.reg (d==1) al x k,r)
   | _=>match nm r with | (i,r)=>(pl i,r)
def rT: Nat := 0xb00d000f0511131207170b177dae0866070aa90d01130917765e0406041751067d0d02110217b77e039a0a01000b01188960698457068e0d0a107f6004080a0b0e0d011102600006010908175857695c04040503521204670007050a0204000c620d0104016b62105f71990368075d077f0d815c0a8817067509b95a516a64010a0751175a09640d5279855880670366010204000008040359060a0a0a097706020960175b03510401177870010f5b71070776580210755c01060a0801086d5e595a51015f03685e72036b07570802080a5a1010615c5b7e82656d58020a040a8b65020e0018685859025d58010d00000a0600040a05040d0700590402060105010b080d010c510008005112020d000901030a040207170061095f08030d0005630d00030a02100d02035a5c02010a030300590d57585102030a5b0502050d00010058030002090d01010200570007030001
def eX: Nat → Nat → NL → NL
 | 0, z, l => z::l
 | f + 1, z, l => if z<87 then z::l else eX f (rT / 65536 ^ (z-87) % 256) (eX f (rT / 65536 ^ (z-87) / 256 % 256) l)
def dg: Nat → Nat → NL
 | 0, _ => []
 | k + 1, n => eX 5 (n % 256) (dg k (n / 256))
abbrev DT:=(Nat->AK)->(Nat->AR)->(Nat->ACode)->ACode
def dD(n x:Nat):DT:=λa pa pl=>(dC a pa pl 999 (dg n x)).1
def W{α:Type}(d x:α)(_:x=d:=by conv=>rhs;reduce):α:=x
def nz:Nat->ACode:=λ_=>.skip
def zBT(d:DT)(a:Nat->AK)(pa:Nat->AR)(pl:Nat->ACode)(x:ACode)(_:x=d a pa pl:=by
 conv =>
  rhs
  conv =>
   fun
   fun
   fun
   reduce
  dsimp only[go_sem]):ACode:=x
attribute [go_sem] zBT W nz
end Go.Av
