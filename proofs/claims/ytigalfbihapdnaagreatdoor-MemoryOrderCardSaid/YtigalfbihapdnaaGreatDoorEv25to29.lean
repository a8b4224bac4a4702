/- A part of the frame (Ev25 Ev26 Ev27 Ev28 Ev29). No conditions. -/
import Derived.Test.YtigalfbihapdnaaGreatDoorEv20to24
import Derived.Lib.Bytealg
set_option linter.unusedSimpArgs false
set_option linter.unusedVariables false
set_option linter.unusedSectionVars false
set_option maxRecDepth 100000
set_option maxHeartbeats 16000000
namespace Go.Av
variable [Gtab]
open Go.RowKit
set_option maxHeartbeats 8000000
theorem flatten_len {z:Nat}:∀ {l:List (List AV)},(∀ e∈l,e.length=z)→l.flatten.length=l.length*z
 | [],_=>by simp
 | e :: l,h=>by
  rw[List.flatten_cons,List.length_append,flatten_len (fun x hx=>h x (by simp [hx])),h e (by simp),List.length_cons,Nat.add_mul];omega
theorem putC_app (A Z cs:List AV) (h:cs.length≤Z.length):putC A.length cs (A++Z)=some (A++cs++Z.drop cs.length):=by
 unfold putC
 rw[if_pos (by rw[List.length_append];omega),List.take_left,List.drop_append]
 congr 3
 ·rw[List.drop_of_length_le (by omega),List.nil_append]
  congr 1;omega
theorem rowsC_seg {z:Nat} (hz:0 < z) (A D R:List AV) (k:Nat) (hD:D.length=k*z) (hf:D.all flatB=true):rowsC A.length k z (A++D++R)=some (rowsOf z k D):=by
 have e:((A++D++R).drop A.length).take (k*z)=D:=by
  rw[List.append_assoc,List.drop_left,← hD,List.take_left]
 unfold rowsC
 rw[e,if_pos ⟨hz,by rw[List.length_append,List.length_append];omega,flat_all_dem hf⟩,flat_map hf]
section
variable {P:Program}
def insX (z i:Nat) (cells:List AV) (V:List (List AV)):List AV:=cells.take (i*z)++V.flatten++cells.drop (i*z)
theorem cap_sound {E:Env} {g:Gh} {σ:AS} {a:Act} {w:World} {o:Oper} {Q:Exit→Act→World→Prop} {x:Nat} (hs:Sim E g σ a w) (hd:∀ d,o.dst=some d→d < E.nt) (hop:isCapOf P x o.op=true) {A:Option Addr} {n c:Nat}
  (hx:a.eval (.tmp x)=.slice A n c):o.wp P a w (Post E (put σ o.dst (.int .i64 (c:Int)))) Q:=by
 unfold isCapOf at hop
 split at hop
 ·rename_i xs ts hop'
  split at hop
  ·rename_i j t hxs hts
   simp only[Bool.and_eq_true] at hop
   obtain⟨h1,h2⟩:=hop
   have:x=j:=by simpa using h1
   subst this
   have hxs':xs=#[.tmp x]:=by apply Array.ext';simpa using hxs
   have hts':ts=#[t]:=by apply Array.ext';simpa using hts
   subst hxs';subst hts'
   split at h2
   ·rename_i e he
    have hx':a.eval (.tmp x)=.slice A n c:=hx
    refine plain_fin hs hd (val:=.int .i64 (c:Int)) ?_ rfl rfl
    simp [execOp,hop',resolve,invoke,builtin,hx',Builtin.cap_,run_underlying he,goInt]
   ·cases h2
  ·cases hop
 ·cases hop
theorem appZ_sound {E:Env} {g:Gh} {σ:AS} {a:Act} {w:World} {o:Oper} {Q:Exit→Act→World→Prop} {x y z bytes:Nat} {zero:List AV} (hs:Sim E g σ a w) (hd:∀ d,o.dst=some d→d < E.nt) (hop:isAppZ P x y z bytes zero o.op=true) {so i k:Nat} {cells:List AV} (hz0:0 < z) (hz1:1 < z)
  (he:ev σ.fr (.t x)=.ss so 0 i z) (hk:ev σ.fr (.t y)=.int .i64 (k:Int)) (hk0:0 < k) (hcl:σ.sh[so]?=some cells) (hfl:cells.all flatB=true) (hle:i*z≤cells.length)
  (hcap:∀ cp,0+cp*z=g.bs so / 2→cp < i+k) (hby:(i+k)*bytes≤140737488355328) (h62:i+k≤4611686018427387904) :
  o.wp P a w (Post E (put { σ with sh:=σ.sh++[cells.take (i*z)++zeroRow zero k] } o.dst (.ss σ.sh.length 0 (i+k) z))) Q:=by
 unfold isAppZ at hop
 split at hop
 ·rename_i xs ts hop'
  split at hop
  ·rename_i j l t tn hxs hts
   simp only[Bool.and_eq_true] at hop
   obtain⟨⟨h1,h2⟩,h3⟩:=hop
   have e1:x=j:=by simpa using h1
   have e2:y=l:=by simpa using h2
   subst e1;subst e2
   have hxs':xs=#[.tmp x,.tmp y]:=by apply Array.ext';simpa using hxs
   have hts':ts=#[t,tn]:=by apply Array.ext';simpa using hts
   subst hxs';subst hts'
   split at h3
   ·rename_i e kn ht htn
    simp only[Bool.and_eq_true] at h3
    obtain⟨⟨h4,h5⟩,h6⟩:=h3
    split at h6
    ·rename_i inf hi
     exact snd_appZ hs hd hop' (rx:=.t x) (ry:=.t y) (by simp [okR]) (by simp [okR]) ht htn h4 (by simpa using h5) hi (by simpa using h6) hz0 (by omega) he hk hk0 hcl hfl hle hcap hby h62
    ·cases h6
   ·cases h3
  ·cases hop
 ·cases hop
theorem Sim.moveTo {E:Env} {g:Gh} {σ:AS} {a:Act} {w:World} (h:Sim E g σ a w) {i t n z:Nat} {cells:List AV} (hi:σ.sh[i]?=some cells) (hbk:blkB cells=true) (hno:cells.all nownB=true) (ht:σ.fr t=.ss i 0 n z) :
  ∃ g',Sim E g' { σ with sh:=σ.sh.set i dead++[cells],fr:=upd σ.fr t (.ss σ.sh.length 0 n z) } a w:=by
 obtain⟨h1,_⟩:=h.moveObj hi hbk hno
 have hlt:i < σ.sh.length:=(List.getElem?_eq_some_iff.1 hi).1
 have hs:=h.slots t
 rw[ht] at hs
 obtain⟨_,cp,q2,q3,q4,q5⟩:=hs
 refine⟨_,h1.reslot (t:=t) (x:=.ss σ.sh.length 0 n z) ?_⟩
 refine⟨by simp [cx],cp,?_,q3,?_,?_⟩
 ·rw[q2];simp [cx,upd]
 ·have q4':0+cp*z≤g.bs i / 2:=q4
  simpa [cx,upd] using q4'
 ·have q5':z≠1→0+cp*z=g.bs i / 2∧g.bs i % 2=1:=q5
  simpa [cx,upd] using q5'
theorem insert_sound (hmix:P.follows .mixedOrders=true) {f f72:FuncId} {z bytes:Nat} {zero:List AV} (hok:okInsert P f f72 z bytes zero=true) (hB:Good P (ovB f72 z)) (hz0:0 < z) (hz1:1 < z) (hzl:zero.length=z) (hzf:zero.all flatB=true) {o n i:Nat} {V:List (List AV)} {c0:AV} {r0:List AV} {V0:List (List AV)} {sh:List (List AV)} {cells:List AV}
  (hV:V=(c0 :: r0) :: V0) (hc:sh[o]?=some cells) (hfl:cells.all flatB=true) (hn:n*z=cells.length) (hi:i < n) (hVz:∀ e∈V,e.length=z) (hVf:V.flatten.all flatB=true) (hby:(n+V.length)*bytes≤140737488355328) (h62:n+V.length≤4611686018427387904) :
  Real P f∧SemCall P f [.ss o 0 n z,.int .i64 (i:Int),.sl .full z V] sh (.ss sh.length 0 (n+V.length) z) (sh.set o dead++[insX z i cells V]):=by
 unfold okInsert at hok
 split at hok
 case h_2=>cases hok
 rename_i fn hfn
 simp only[Bool.and_eq_true,decide_eq_true_eq] at hok
 obtain⟨⟨⟨hbody,hnt⟩,hres⟩,hname⟩:=hok
 split at hbody
 case h_2=>cases hbody
 rename_i k0 k1 k2 k3 k5 k6 id8 ops8 id9 ops9 gr rest hC
 simp only[Bool.and_eq_true] at hbody
 obtain⟨⟨⟨⟨⟨⟨⟨⟨⟨b0,b1⟩,b2⟩,b3⟩,b5⟩,b6⟩,bg⟩,br⟩,b8⟩,b9⟩:=hbody
 split at b8
 case h_2=>cases b8
 rename_i p1 p2 p3 p4 q8 r8 hops8
 split at b9
 case h_2=>cases b9
 rename_i s1 s2 s3 s4 s5 s6 s7 s8 q9 r9 hops9
 simp only[Bool.and_eq_true] at b8 b9
 obtain⟨⟨⟨⟨u1,u2⟩,u3⟩,u4⟩,u5⟩:=b8
 obtain⟨⟨⟨⟨v1,v2⟩,v3⟩,v4⟩,v5⟩:=b9
 have u3':q8.dst=some 30:=by simpa using u3
 have u4':q8.guard=none:=by simpa using u4
 have v3':q9.dst=some 40:=by simpa using v3
 have v4':q9.guard=none:=by simpa using v4
 obtain⟨m,hm⟩:∃ m,m=V.length:=⟨_,rfl⟩
 have hm1:1≤m:=by rw[hm,hV];simp
 rw[← hm] at hby h62 ⊢
 have hol:o < sh.length:=(List.getElem?_eq_some_iff.1 hc).1
 have hbk:=flat_blk hfl
 have hnz:cells.length=n*z:=hn.symm
 have hiz:i*z≤n*z:=Nat.mul_le_mul_right _ (by omega)
 have hVl:V.flatten.length=m*z:=by rw[hm];exact flatten_len hVz
 obtain⟨A,hA⟩:∃ A,A=cells.take (i*z):=⟨_,rfl⟩
 obtain⟨D,hD⟩:∃ D,D=cells.drop (i*z):=⟨_,rfl⟩
 have hAD:cells=A++D:=by rw[hA,hD,List.take_append_drop]
 have hAl:A.length=i*z:=by rw[hA,List.length_take];omega
 have hDl:D.length=(n - i)*z:=by rw[hD,List.length_drop,Nat.sub_mul];omega
 have hDf:D.all flatB=true:=by
  rw[List.all_eq_true] at hfl ⊢
  exact fun x hx=>hfl x (by rw[hAD];exact List.mem_append_right _ hx)
 have hAf:A.all flatB=true:=by
  rw[List.all_eq_true] at hfl ⊢
  exact fun x hx=>hfl x (by rw[hAD];exact List.mem_append_left _ hx)
 have hXi:insX z i cells V=A++V.flatten++D:=by rw[insX,← hA,← hD]
 have hXf:(insX z i cells V).all flatB=true:=by rw[hXi,List.all_append,List.all_append,hAf,hVf,hDf];rfl
 obtain⟨f1,f2,f3⟩:=rowsOf_flat z (n - i) D hDl
 have e1:(0:Int)≤(i:Int):=by omega
 have e2:(i:Int) < (n:Int):=by omega
 have e2':(i:Int)≤(n:Int):=by omega
 have e3:((m:Int)=0)=False:=eq_false (by omega)
 have e4:((i:Int)=(n:Int))=False:=eq_false (by omega)
 have e5:IntKind.i64.wrap ((n:Int)+(m:Int))=((n+m:Nat):Int):=by rw[w64 (by omega) (by omega)];rfl
 have e6:IntKind.i64.wrap (((n+m:Nat):Int) - (i:Int))=((n+m - i:Nat):Int):=by rw[w64 (by omega) (by omega)];omega
 have e7:IntKind.i64.wrap ((i:Int)+(m:Int))=((i+m:Nat):Int):=by rw[w64 (by omega) (by omega)];rfl
 have e8:(0:Int)≤((i+m:Nat):Int):=by omega
 have e9:((i+m:Nat):Int) < ((n+m:Nat):Int):=by omega
 have e9':((i+m:Nat):Int)≤((n+m:Nat):Int):=by omega
 have e10:(i:Int) < ((n+m:Nat):Int):=by omega
 have e10':(i:Int)≤((n+m:Nat):Int):=by omega
 refine fun_wp (nargs:=3) (keep:=true) (res:=[.tmpD 6]) hfn hC (by omega) hres (by simpa using hname) rfl ?_
 intro E g a w hEt hn0 hs
 rw[← hEt] at b0 b1 b2 b3 b5 b6 bg br u1 u2 v1 v2
 rw[initA_ST] at hs
 have x0:execX GN (insI0 z) (ST (argl 0 [.ss o 0 n z,.int .i64 (i:Int),.sl .full z V]) [] sh)=some (.norm,ST [(0,.ss o 0 n z),(1,.int .i64 i),(2,.sl .full z V)] [] sh):=by
  simp only[insI0,argl,go_sem,List.set_cons_zero,List.set_cons_succ,List.take_succ_cons,and_false,false_and,and_true,true_and,Nat.reduceAdd,Nat.reduceEqDiff,Nat.reduceLT,↓reduceIte,decide_eq_true_eq,List.take_nil,beq_self_eq_true,bne_self_eq_false,List.take_zero,List.map_cons,List.map_nil,Int.reduceNeg,Bool.and_true,and_self,Bool.true_and,Bool.and_self,ne_eq,not_true_eq_false,decide_false,decide_true,Bool.false_eq_true,Nat.reduceAdd,Option.map_some,Option.map_none,Option.bind_some,Option.bind_none,List.length_nil,List.length_cons,List.append_nil,Bool.and_false,w64,demV_sl,Int.cast_ofNat_Int,Int.reduceLT,Int.reduceAdd,Int.reduceSub,Int.reduceLE,Int.reduceEq,Int.reduceToNat,Int.toNat_natCast,Nat.reduceSub,Nat.reduceMul,Nat.reduceLeDiff,Nat.zero_add,Int.zero_add,not_false_eq_true,Bool.not_true,Bool.not_false,Bool.false_and,List.cons_append,List.nil_append]
 have x1:execX GN (insI1 z) (ST [(0,.ss o 0 n z),(1,.int .i64 i),(2,.sl .full z V)] [] sh)=some (.norm,ST [(0,.ss o 0 n z),(1,.int .i64 i),(2,.sl .full z V)] [] sh):=by
  simp only[insI1,mvO,go_sem,List.set_cons_zero,List.set_cons_succ,List.take_succ_cons,and_false,false_and,and_true,true_and,Nat.reduceAdd,Nat.reduceEqDiff,Nat.reduceLT,↓reduceIte,decide_eq_true_eq,List.take_nil,beq_self_eq_true,bne_self_eq_false,List.take_zero,List.map_cons,List.map_nil,Int.reduceNeg,Bool.and_true,and_self,Bool.true_and,Bool.and_self,ne_eq,not_true_eq_false,decide_false,decide_true,Bool.false_eq_true,Nat.reduceAdd,Option.map_some,Option.map_none,Option.bind_some,Option.bind_none,List.length_nil,List.length_cons,List.append_nil,Bool.and_false,w64,demV_sl,Int.cast_ofNat_Int,Int.reduceLT,Int.reduceAdd,Int.reduceSub,Int.reduceLE,Int.reduceEq,Int.reduceToNat,Int.toNat_natCast,Nat.reduceSub,Nat.reduceMul,Nat.reduceLeDiff,Nat.zero_add,Int.zero_add,not_false_eq_true,Bool.not_true,Bool.not_false,Bool.false_and,List.cons_append,List.nil_append,e1,e2,e2',or_true]
 have x2:execX GN insI2 (ST [(0,.ss o 0 n z),(1,.int .i64 i),(2,.sl .full z V)] [] sh)=some (.norm,ST [(0,.ss o 0 n z),(1,.int .i64 i),(2,.sl .full z V),(7,.int .i64 m)] [] sh):=by
  rw[hm]
  simp only[insI2,mvO,go_sem,List.set_cons_zero,List.set_cons_succ,List.take_succ_cons,and_false,false_and,and_true,true_and,Nat.reduceAdd,Nat.reduceEqDiff,Nat.reduceLT,↓reduceIte,decide_eq_true_eq,List.take_nil,beq_self_eq_true,bne_self_eq_false,List.take_zero,List.map_cons,List.map_nil,Int.reduceNeg,Bool.and_true,and_self,Bool.true_and,Bool.and_self,ne_eq,not_true_eq_false,decide_false,decide_true,Bool.false_eq_true,Nat.reduceAdd,Option.map_some,Option.map_none,Option.bind_some,Option.bind_none,List.length_nil,List.length_cons,List.append_nil,Bool.and_false,w64,demV_sl,Int.cast_ofNat_Int,Int.reduceLT,Int.reduceAdd,Int.reduceSub,Int.reduceLE,Int.reduceEq,Int.reduceToNat,Int.toNat_natCast,Nat.reduceSub,Nat.reduceMul,Nat.reduceLeDiff,Nat.zero_add,Int.zero_add,not_false_eq_true,Bool.not_true,Bool.not_false,Bool.false_and,List.cons_append,List.nil_append]
 have x3:execX GN insI3 (ST [(0,.ss o 0 n z),(1,.int .i64 i),(2,.sl .full z V),(7,.int .i64 m)] [] sh)=some (.norm,ST [(0,.ss o 0 n z),(1,.int .i64 i),(2,.sl .full z V),(7,.int .i64 m),(16,.bool false)] [] sh):=by
  simp only[insI3,mvO,go_sem,List.set_cons_zero,List.set_cons_succ,List.take_succ_cons,and_false,false_and,and_true,true_and,Nat.reduceAdd,Nat.reduceEqDiff,Nat.reduceLT,↓reduceIte,decide_eq_true_eq,List.take_nil,beq_self_eq_true,bne_self_eq_false,List.take_zero,List.map_cons,List.map_nil,Int.reduceNeg,Bool.and_true,and_self,Bool.true_and,Bool.and_self,ne_eq,not_true_eq_false,decide_false,decide_true,Bool.false_eq_true,Nat.reduceAdd,Option.map_some,Option.map_none,Option.bind_some,Option.bind_none,List.length_nil,List.length_cons,List.append_nil,Bool.and_false,w64,demV_sl,Int.cast_ofNat_Int,Int.reduceLT,Int.reduceAdd,Int.reduceSub,Int.reduceLE,Int.reduceEq,Int.reduceToNat,Int.toNat_natCast,Nat.reduceSub,Nat.reduceMul,Nat.reduceLeDiff,Nat.zero_add,Int.zero_add,not_false_eq_true,Bool.not_true,Bool.not_false,Bool.false_and,List.cons_append,List.nil_append,e3]
 have x5:execX GN insI5 (ST [(0,.ss o 0 n z),(1,.int .i64 i),(2,.sl .full z V),(7,.int .i64 m),(16,.bool false)] [] sh)=some (.norm,ST [(0,.ss o 0 n z),(1,.int .i64 i),(2,.sl .full z V),(7,.int .i64 m),(8,.int .i64 n),(16,.bool false)] [] sh):=by
  simp only[insI5,mvO,go_sem,List.set_cons_zero,List.set_cons_succ,List.take_succ_cons,and_false,false_and,and_true,true_and,Nat.reduceAdd,Nat.reduceEqDiff,Nat.reduceLT,↓reduceIte,decide_eq_true_eq,List.take_nil,beq_self_eq_true,bne_self_eq_false,List.take_zero,List.map_cons,List.map_nil,Int.reduceNeg,Bool.and_true,and_self,Bool.true_and,Bool.and_self,ne_eq,not_true_eq_false,decide_false,decide_true,Bool.false_eq_true,Nat.reduceAdd,Option.map_some,Option.map_none,Option.bind_some,Option.bind_none,List.length_nil,List.length_cons,List.append_nil,Bool.and_false,w64,demV_sl,Int.cast_ofNat_Int,Int.reduceLT,Int.reduceAdd,Int.reduceSub,Int.reduceLE,Int.reduceEq,Int.reduceToNat,Int.toNat_natCast,Nat.reduceSub,Nat.reduceMul,Nat.reduceLeDiff,Nat.zero_add,Int.zero_add,not_false_eq_true,Bool.not_true,Bool.not_false,Bool.false_and,List.cons_append,List.nil_append]
 have x6:execX GN insI6 (ST [(0,.ss o 0 n z),(1,.int .i64 i),(2,.sl .full z V),(7,.int .i64 m),(8,.int .i64 n),(16,.bool false)] [] sh)=some (.norm,ST [(0,.ss o 0 n z),(1,.int .i64 i),(2,.sl .full z V),(7,.int .i64 m),(8,.int .i64 n),(16,.bool false),(22,.bool false)] [] sh):=by
  simp only[insI6,mvO,go_sem,List.set_cons_zero,List.set_cons_succ,List.take_succ_cons,and_false,false_and,and_true,true_and,Nat.reduceAdd,Nat.reduceEqDiff,Nat.reduceLT,↓reduceIte,decide_eq_true_eq,List.take_nil,beq_self_eq_true,bne_self_eq_false,List.take_zero,List.map_cons,List.map_nil,Int.reduceNeg,Bool.and_true,and_self,Bool.true_and,Bool.and_self,ne_eq,not_true_eq_false,decide_false,decide_true,Bool.false_eq_true,Nat.reduceAdd,Option.map_some,Option.map_none,Option.bind_some,Option.bind_none,List.length_nil,List.length_cons,List.append_nil,Bool.and_false,w64,demV_sl,Int.cast_ofNat_Int,Int.reduceLT,Int.reduceAdd,Int.reduceSub,Int.reduceLE,Int.reduceEq,Int.reduceToNat,Int.toNat_natCast,Nat.reduceSub,Nat.reduceMul,Nat.reduceLeDiff,Nat.zero_add,Int.zero_add,not_false_eq_true,Bool.not_true,Bool.not_false,Bool.false_and,List.cons_append,List.nil_append,e4]
 have x8:execX GN (.reg false [] insP8 []) (ST [(0,.ss o 0 n z),(1,.int .i64 i),(2,.sl .full z V),(7,.int .i64 m),(8,.int .i64 n),(16,.bool false),(22,.bool false)] [] sh)=some (.norm,ST [(0,.ss o 0 n z),(1,.int .i64 i),(2,.sl .full z V),(7,.int .i64 m),(8,.int .i64 n),(16,.bool false),(22,.bool false),(26,.int .i64 n),(27,.int .i64 m),(28,.int .i64 ((n+m:Nat):Int)),(29,.ss o 0 n z)] [] sh):=by
  simp only[insP8,mvO,go_sem,List.set_cons_zero,List.set_cons_succ,List.take_succ_cons,and_false,false_and,and_true,true_and,Nat.reduceAdd,Nat.reduceEqDiff,Nat.reduceLT,↓reduceIte,decide_eq_true_eq,List.take_nil,beq_self_eq_true,bne_self_eq_false,List.take_zero,List.map_cons,List.map_nil,Int.reduceNeg,Bool.and_true,and_self,Bool.true_and,Bool.and_self,ne_eq,not_true_eq_false,decide_false,decide_true,Bool.false_eq_true,Nat.reduceAdd,Option.map_some,Option.map_none,Option.bind_some,Option.bind_none,List.length_nil,List.length_cons,List.append_nil,Bool.and_false,w64,demV_sl,Int.cast_ofNat_Int,Int.reduceLT,Int.reduceAdd,Int.reduceSub,Int.reduceLE,Int.reduceEq,Int.reduceToNat,Int.toNat_natCast,Nat.reduceSub,Nat.reduceMul,Nat.reduceLeDiff,Nat.zero_add,Int.zero_add,not_false_eq_true,Bool.not_true,Bool.not_false,Bool.false_and,List.cons_append,List.nil_append,e5]
 refine wp_seq (execX_sound hmix b0 x0 ⟨g,hs⟩ fun a w hp=>?_)
 refine wp_seq (execX_sound hmix b1 x1 hp fun a w hp=>?_)
 refine wp_seq (execX_sound hmix b2 x2 hp fun a w hp=>?_)
 refine wp_seq (execX_sound hmix b3 x3 hp fun a w hp=>?_)
 refine wp_seq (execX_sound hmix b5 x5 hp fun a w hp=>?_)
 refine wp_seq (execX_sound hmix b6 x6 hp fun a w hp=>?_)
 refine wp_seq (wp_seq (wp_region_list ?_))
 rw[hops8]
 refine pre_sound (rest:=[q8,r8]) hmix u1 hp x8 fun a w hp=>?_
 obtain⟨g1,hs1⟩:=hp
 obtain⟨_,cp,y1,y2,y3,y3q⟩:=hs1.rd (x:=.tmp 29) (r:=.t 29) (v:=.ss o 0 n z) (by simp [okR]) rfl
 have hbs1:g1.bs o=E.bs0 o:=(hs1.shr0 o (by omega)).2
 have y3':0+cp*z=E.bs0 o / 2:=by rw[← hbs1];exact (y3q (by omega)).1
 refine wpList_plain u4' fun K hK=>?_
 refine Oper.wp_mono ?_ (cap_sound hs1 (fun d hd=>by rw[u3'] at hd;injection hd with hd;rw[← hd,hEt];exact Nat.lt_of_lt_of_le (by decide) hnt) u5 y1)
 intro a w hp
 rw[u3'] at hp
 refine hK _ _ ?_
 have hp1:Post E (ST [(0,.ss o 0 n z),(1,.int .i64 i),(2,.sl .full z V),(7,.int .i64 m),(8,.int .i64 n),(16,.bool false),(22,.bool false),(26,.int .i64 n),(27,.int .i64 m),(28,.int .i64 ((n+m:Nat):Int)),(29,.ss o 0 n z),(30,.int .i64 cp)] [] sh) a w:=by
  have e:put (ST [(0,.ss o 0 n z),(1,.int .i64 i),(2,.sl .full z V),(7,.int .i64 m),(8,.int .i64 n),(16,.bool false),(22,.bool false),(26,.int .i64 n),(27,.int .i64 m),(28,.int .i64 ((n+m:Nat):Int)),(29,.ss o 0 n z)] [] sh) (some 30) (.int .i64 (cp:Int))=ST [(0,.ss o 0 n z),(1,.int .i64 i),(2,.sl .full z V),(7,.int .i64 m),(8,.int .i64 n),(16,.bool false),(22,.bool false),(26,.int .i64 n),(27,.int .i64 m),(28,.int .i64 ((n+m:Nat):Int)),(29,.ss o 0 n z),(30,.int .i64 cp)] [] sh:=by
   simp only[put,ST,upd_look,setl]
   rfl
  rwa [e] at hp
 have x8q:execX GN (.reg false [] insQ8 []) (ST [(0,.ss o 0 n z),(1,.int .i64 i),(2,.sl .full z V),(7,.int .i64 m),(8,.int .i64 n),(16,.bool false),(22,.bool false),(26,.int .i64 n),(27,.int .i64 m),(28,.int .i64 ((n+m:Nat):Int)),(29,.ss o 0 n z),(30,.int .i64 cp)] [] sh)=some (.norm,ST [(0,.ss o 0 n z),(1,.int .i64 i),(2,.sl .full z V),(7,.int .i64 m),(8,.int .i64 n),(16,.bool false),(22,.bool false),(26,.int .i64 n),(27,.int .i64 m),(28,.int .i64 ((n+m:Nat):Int)),(29,.ss o 0 n z),(30,.int .i64 cp),(31,.bool (decide ((cp:Int) < ((n+m:Nat):Int))))] [] sh):=by
  simp only[insQ8,go_sem,List.set_cons_zero,List.set_cons_succ,List.take_succ_cons,and_false,false_and,and_true,true_and,Nat.reduceAdd,Nat.reduceEqDiff,Nat.reduceLT,↓reduceIte,decide_eq_true_eq,List.take_nil,beq_self_eq_true,bne_self_eq_false,List.take_zero,List.map_cons,List.map_nil,Int.reduceNeg,Bool.and_true,and_self,Bool.true_and,Bool.and_self,ne_eq,not_true_eq_false,decide_false,decide_true,Bool.false_eq_true,Nat.reduceAdd,Option.map_some,Option.map_none,Option.bind_some,Option.bind_none,List.length_nil,List.length_cons,List.append_nil,Bool.and_false,w64,demV_sl,Int.cast_ofNat_Int,Int.reduceLT,Int.reduceAdd,Int.reduceSub,Int.reduceLE,Int.reduceEq,Int.reduceToNat,Int.toNat_natCast,Nat.reduceSub,Nat.reduceMul,Nat.reduceLeDiff,Nat.zero_add,Int.zero_add,not_false_eq_true,Bool.not_true,Bool.not_false,Bool.false_and,List.cons_append,List.nil_append]
 refine pre_sound (os:=[r8]) (rest:=[]) hmix u2 hp1 x8q fun a w hp=>?_
 show ((Code.cond (.tmp 31) (.seq (.region id9 ops9 false) gr) .skip).wp P _ a w)
 have hb31:a.eval (.tmp 31)=.bool (decide ((cp:Int) < ((n+m:Nat):Int))):=by
  obtain⟨g3,hs3⟩:=hp
  exact hs3.rdBool (r:=.t 31) (by simp [okR]) rfl
 refine wp_cond hb31 ?_
 by_cases hroom:cp < n+m
 ·
  have hd:decide ((cp:Int) < ((n+m:Nat):Int))=true:=by simpa using (show (cp:Int) < ((n+m:Nat):Int) by omega)
  rw[hd] at hp ⊢
  have x9:execX GN (.reg false [] (insP9 z) []) (ST [(0,.ss o 0 n z),(1,.int .i64 i),(2,.sl .full z V),(7,.int .i64 m),(8,.int .i64 n),(16,.bool false),(22,.bool false),(26,.int .i64 n),(27,.int .i64 m),(28,.int .i64 ((n+m:Nat):Int)),(29,.ss o 0 n z),(30,.int .i64 cp),(31,.bool true)] [] sh)=some (.norm,ST [(0,.ss o 0 n z),(1,.int .i64 i),(2,.sl .full z V),(7,.int .i64 m),(8,.int .i64 n),(16,.bool false),(22,.bool false),(26,.int .i64 n),(27,.int .i64 m),(28,.int .i64 ((n+m:Nat):Int)),(29,.ss o 0 n z),(30,.int .i64 cp),(31,.bool true),(32,.ss o 0 n z),(33,.int .i64 i),(34,.ss o 0 i z),(35,.int .i64 n),(36,.int .i64 m),(37,.int .i64 ((n+m:Nat):Int)),(38,.int .i64 i),(39,.int .i64 ((n+m - i:Nat):Int))] [] sh):=by
   simp only[insP9,mvO,go_sem,List.set_cons_zero,List.set_cons_succ,List.take_succ_cons,and_false,false_and,and_true,true_and,Nat.reduceAdd,Nat.reduceEqDiff,Nat.reduceLT,↓reduceIte,decide_eq_true_eq,List.take_nil,beq_self_eq_true,bne_self_eq_false,List.take_zero,List.map_cons,List.map_nil,Int.reduceNeg,Bool.and_true,and_self,Bool.true_and,Bool.and_self,ne_eq,not_true_eq_false,decide_false,decide_true,Bool.false_eq_true,Nat.reduceAdd,Option.map_some,Option.map_none,Option.bind_some,Option.bind_none,List.length_nil,List.length_cons,List.append_nil,Bool.and_false,w64,demV_sl,Int.cast_ofNat_Int,Int.reduceLT,Int.reduceAdd,Int.reduceSub,Int.reduceLE,Int.reduceEq,Int.reduceToNat,Int.toNat_natCast,Nat.reduceSub,Nat.reduceMul,Nat.reduceLeDiff,Nat.zero_add,Int.zero_add,not_false_eq_true,Bool.not_true,Bool.not_false,Bool.false_and,List.cons_append,List.nil_append,e1,e2',e5,e6]
  refine wp_seq (wp_region_list ?_)
  rw[hops9]
  refine pre_sound (rest:=[q9,r9]) hmix v1 hp x9 fun a w hp=>?_
  obtain⟨g2,hs2⟩:=hp
  refine wpList_plain v4' fun K hK=>?_
  refine Oper.wp_mono ?_ (appZ_sound hs2 (fun d hd=>by rw[v3'] at hd;injection hd with hd;rw[← hd,hEt];exact Nat.lt_of_lt_of_le (by decide) hnt) v5 (so:=o) (i:=i) (k:=n+m - i) hz0 hz1 (by rfl) (by rfl) (by omega) hc hfl (by omega) (fun cq hq=>by
   have hbs2:g2.bs o=E.bs0 o:=(hs2.shr0 o (by omega)).2
   rw[hbs2,← y3'] at hq
   have h9:cq*z=cp*z:=by omega
   have:=Nat.eq_of_mul_eq_mul_right hz0 h9
   omega) (by rw[show i+(n+m - i)=n+m by omega];exact hby) (by omega))
  intro a w hp
  rw[v3'] at hp
  refine hK _ _ ?_
  have hk9:i+(n+m - i)=n+m:=by omega
  rw[hk9] at hp
  obtain⟨Z,hZ⟩:∃ Z,Z=zeroRow zero (n+m - i):=⟨_,rfl⟩
  have hZl:Z.length=m*z+(n - i)*z:=by rw[hZ,zeroRow_length,hzl,← Nat.add_mul];congr 1;omega
  rw[← hA,← hZ] at hp
  have hp1:Post E (ST [(0,.ss o 0 n z),(1,.int .i64 i),(2,.sl .full z V),(7,.int .i64 m),(8,.int .i64 n),(16,.bool false),(22,.bool false),(26,.int .i64 n),(27,.int .i64 m),(28,.int .i64 ((n+m:Nat):Int)),(29,.ss o 0 n z),(30,.int .i64 cp),(31,.bool true),(32,.ss o 0 n z),(33,.int .i64 i),(34,.ss o 0 i z),(35,.int .i64 n),(36,.int .i64 m),(37,.int .i64 ((n+m:Nat):Int)),(38,.int .i64 i),(39,.int .i64 ((n+m - i:Nat):Int)),(40,.ss sh.length 0 (n+m) z)] [] (sh++[A++Z])) a w:=by
   have e:put (ST [(0,.ss o 0 n z),(1,.int .i64 i),(2,.sl .full z V),(7,.int .i64 m),(8,.int .i64 n),(16,.bool false),(22,.bool false),(26,.int .i64 n),(27,.int .i64 m),(28,.int .i64 ((n+m:Nat):Int)),(29,.ss o 0 n z),(30,.int .i64 cp),(31,.bool true),(32,.ss o 0 n z),(33,.int .i64 i),(34,.ss o 0 i z),(35,.int .i64 n),(36,.int .i64 m),(37,.int .i64 ((n+m:Nat):Int)),(38,.int .i64 i),(39,.int .i64 ((n+m - i:Nat):Int))] [] (sh++[A++Z])) (some 40) (.ss sh.length 0 (n+m) z)=ST [(0,.ss o 0 n z),(1,.int .i64 i),(2,.sl .full z V),(7,.int .i64 m),(8,.int .i64 n),(16,.bool false),(22,.bool false),(26,.int .i64 n),(27,.int .i64 m),(28,.int .i64 ((n+m:Nat):Int)),(29,.ss o 0 n z),(30,.int .i64 cp),(31,.bool true),(32,.ss o 0 n z),(33,.int .i64 i),(34,.ss o 0 i z),(35,.int .i64 n),(36,.int .i64 m),(37,.int .i64 ((n+m:Nat):Int)),(38,.int .i64 i),(39,.int .i64 ((n+m - i:Nat):Int)),(40,.ss sh.length 0 (n+m) z)] [] (sh++[A++Z]):=by
    simp only[put,ST,upd_look,setl]
    rfl
   rw[← e];exact hp
  have x9q:execX GN (.reg false [] insQ9 []) (ST [(0,.ss o 0 n z),(1,.int .i64 i),(2,.sl .full z V),(7,.int .i64 m),(8,.int .i64 n),(16,.bool false),(22,.bool false),(26,.int .i64 n),(27,.int .i64 m),(28,.int .i64 ((n+m:Nat):Int)),(29,.ss o 0 n z),(30,.int .i64 cp),(31,.bool true),(32,.ss o 0 n z),(33,.int .i64 i),(34,.ss o 0 i z),(35,.int .i64 n),(36,.int .i64 m),(37,.int .i64 ((n+m:Nat):Int)),(38,.int .i64 i),(39,.int .i64 ((n+m - i:Nat):Int)),(40,.ss sh.length 0 (n+m) z)] [] (sh++[A++Z]))=some (.norm,ST [(0,.ss o 0 n z),(1,.int .i64 i),(2,.sl .full z V),(7,.int .i64 m),(8,.int .i64 n),(9,.ss sh.length 0 (n+m) z),(16,.bool false),(22,.bool false),(26,.int .i64 n),(27,.int .i64 m),(28,.int .i64 ((n+m:Nat):Int)),(29,.ss o 0 n z),(30,.int .i64 cp),(31,.bool true),(32,.ss o 0 n z),(33,.int .i64 i),(34,.ss o 0 i z),(35,.int .i64 n),(36,.int .i64 m),(37,.int .i64 ((n+m:Nat):Int)),(38,.int .i64 i),(39,.int .i64 ((n+m - i:Nat):Int)),(40,.ss sh.length 0 (n+m) z)] [] (sh++[A++Z])):=by
   simp only[insQ9,mvO,go_sem,List.set_cons_zero,List.set_cons_succ,List.take_succ_cons,and_false,false_and,and_true,true_and,Nat.reduceAdd,Nat.reduceEqDiff,Nat.reduceLT,↓reduceIte,decide_eq_true_eq,List.take_nil,beq_self_eq_true,bne_self_eq_false,List.take_zero,List.map_cons,List.map_nil,Int.reduceNeg,Bool.and_true,and_self,Bool.true_and,Bool.and_self,ne_eq,not_true_eq_false,decide_false,decide_true,Bool.false_eq_true,Nat.reduceAdd,Option.map_some,Option.map_none,Option.bind_some,Option.bind_none,List.length_nil,List.length_cons,List.append_nil,Bool.and_false,w64,demV_sl,Int.cast_ofNat_Int,Int.reduceLT,Int.reduceAdd,Int.reduceSub,Int.reduceLE,Int.reduceEq,Int.reduceToNat,Int.toNat_natCast,Nat.reduceSub,Nat.reduceMul,Nat.reduceLeDiff,Nat.zero_add,Int.zero_add,not_false_eq_true,Bool.not_true,Bool.not_false,Bool.false_and,List.cons_append,List.nil_append]
  refine pre_sound (os:=[r9]) (rest:=[]) hmix v2 hp1 x9q fun a w hp=>?_
  show (gr.wp P _ a w)
  have hset:∀ X Y:List AV,(sh++[X]).set sh.length Y=sh++[Y]:=fun X Y=>by rw[List.set_append_right _ _ (Nat.le_refl _)];simp
  have hget:∀ X:List AV,(sh++[X])[sh.length]?=some X:=fun X=>by simp
  have hgeto:∀ X:List AV,(sh++[X])[o]?=some cells:=fun X=>by rw[List.getElem?_append_left hol];exact hc
  have hne:V.flatten≠[]:=by rw[hV];simp
  have hZf:Z.all flatB=true:=by
   rw[hZ,List.all_eq_true]
   intro y hy
   obtain⟨j,hj⟩:=List.mem_iff_getElem?.1 hy
   obtain⟨_,j2⟩:=zeroRow_take zero j _ y hj
   rw[List.all_eq_true] at hzf
   exact hzf _ (List.mem_iff_getElem?.2 ⟨_,j2⟩)
  have hb1:blkB (A++Z)=true:=flat_blk (by rw[List.all_append,hAf,hZf];rfl)
  have hZd:(Z.drop (m*z)).all flatB=true:=by
   rw[List.all_eq_true] at hZf ⊢
   exact fun x hx=>hZf x (List.mem_of_mem_drop hx)
  have hb2:blkB (A++V.flatten++Z.drop (m*z))=true:=flat_blk (by rw[List.all_append,List.all_append,hAf,hVf,hZd];rfl)
  have hcp1:cpyA z (sh++[A++Z]) (.sl .full z V) (.ss sh.length (i*z) (n+m - i) z)=some (.int .i64 (V.length:Int),sh++[A++V.flatten++Z.drop (m*z)]):=by
   have hp:=putC_app A Z V.flatten (by omega)
   rw[hAl,hVl] at hp
   rw[cpyA_some hz0 (l2:=V) (by simp [truncV,rowsS,rowsA]) (by omega) (hget _) hb1 hp,hset]
  have hcp2:cpyA z (sh++[A++V.flatten++Z.drop (m*z)]) (.ss o (i*z) (n - i) z) (.ss sh.length ((i+m)*z) (n+m - (i+m)) z)=some (.int .i64 ((rowsOf z (n - i) D).length:Int),sh++[A++V.flatten++D]):=by
   have hp:=putC_app (A++V.flatten) (Z.drop (m*z)) D (by rw[List.length_drop];omega)
   have hAV:(A++V.flatten).length=(i+m)*z:=by rw[List.length_append,hAl,hVl,Nat.add_mul]
   have hdd:(Z.drop (m*z)).drop D.length=[]:=List.drop_eq_nil_of_le (by rw[List.length_drop];omega)
   rw[hAV,hdd,List.append_nil,← f1] at hp
   have hrw:rowsS false z (sh++[A++V.flatten++Z.drop (m*z)]) (truncV (n+m - (i+m)) (.ss o (i*z) (n - i) z))=some (rowsOf z (n - i) D):=by
    have hmn:min (n - i) (n+m - (i+m))=n - i:=by omega
    have hseg:=rowsC_seg hz0 A D [] (n - i) hDl hDf
    rw[List.append_nil,← hAD,hAl] at hseg
    simp only[truncV,hmn,rowsS,hgeto,Option.bind_some,hseg,true_and,if_true]
   rw[cpyA_some hz0 hrw (by rw[f3];omega) (hget _) hb2 hp,hset,f1]
  have x10:execX GN (insG z) (ST [(0,.ss o 0 n z),(1,.int .i64 i),(2,.sl .full z V),(7,.int .i64 m),(8,.int .i64 n),(9,.ss sh.length 0 (n+m) z),(16,.bool false),(22,.bool false),(26,.int .i64 n),(27,.int .i64 m),(28,.int .i64 ((n+m:Nat):Int)),(29,.ss o 0 n z),(30,.int .i64 cp),(31,.bool true),(32,.ss o 0 n z),(33,.int .i64 i),(34,.ss o 0 i z),(35,.int .i64 n),(36,.int .i64 m),(37,.int .i64 ((n+m:Nat):Int)),(38,.int .i64 i),(39,.int .i64 ((n+m - i:Nat):Int)),(40,.ss sh.length 0 (n+m) z)] [] (sh++[A++Z]))=some (.ret,ST [(0,.ss o 0 n z),(1,.int .i64 i),(2,.sl .full z V),(6,.ss sh.length 0 (n+m) z),(7,.int .i64 m),(8,.int .i64 n),(9,.ss sh.length 0 (n+m) z),(16,.bool false),(22,.bool false),(26,.int .i64 n),(27,.int .i64 m),(28,.int .i64 ((n+m:Nat):Int)),(29,.ss o 0 n z),(30,.int .i64 cp),(31,.bool true),(32,.ss o 0 n z),(33,.int .i64 i),(34,.ss o 0 i z),(35,.int .i64 n),(36,.int .i64 m),(37,.int .i64 ((n+m:Nat):Int)),(38,.int .i64 i),(39,.int .i64 ((n+m - i:Nat):Int)),(40,.ss sh.length 0 (n+m) z)] [] (sh++[A++V.flatten++D])):=by
   simp only[insG,mvO,go_sem,List.set_cons_zero,List.set_cons_succ,List.take_succ_cons,and_false,false_and,and_true,true_and,Nat.reduceAdd,Nat.reduceEqDiff,Nat.reduceLT,↓reduceIte,decide_eq_true_eq,List.take_nil,beq_self_eq_true,bne_self_eq_false,List.take_zero,List.map_cons,List.map_nil,Int.reduceNeg,Bool.and_true,and_self,Bool.true_and,Bool.and_self,ne_eq,not_true_eq_false,decide_false,decide_true,Bool.false_eq_true,Nat.reduceAdd,Option.map_some,Option.map_none,Option.bind_some,Option.bind_none,List.length_nil,List.length_cons,List.append_nil,Bool.and_false,w64,demV_sl,Int.cast_ofNat_Int,Int.reduceLT,Int.reduceAdd,Int.reduceSub,Int.reduceLE,Int.reduceEq,Int.reduceToNat,Int.toNat_natCast,Nat.reduceSub,Nat.reduceMul,Nat.reduceLeDiff,Nat.zero_add,Int.zero_add,not_false_eq_true,Bool.not_true,Bool.not_false,Bool.false_and,List.cons_append,List.nil_append,e1,e2,e2',e7,e8,e9,e9',e10,e10',or_true,hcp1,hcp2]
  refine execX_sound hmix bg x10 hp fun a w hp=>?_
  obtain⟨g4,hs4⟩:=hp
  have h5:=hs4.killObj (i:=o) (cells:=cells) (hgeto _) hbk
  refine⟨.inl rfl,_,⟨g4,h5⟩,?_⟩
  rw[hXi]
  have hfin:(sh++[A++V.flatten++D]).set o dead=sh.set o dead++[A++V.flatten++D]:=List.set_append_left _ _ hol
  simp only[ST] at hfin ⊢
  rw[hfin]
  simp [finA,resultsA,resA,frzV,packA,outB,plainB,demV,look]
 ·
  have hd:decide ((cp:Int) < ((n+m:Nat):Int))=false:=by simpa using (show ((n+m:Nat):Int)≤(cp:Int) by omega)
  rw[hd] at hp ⊢
  refine wp_skip ?_
  show (rest.wp P _ a w)
  obtain⟨g3,hs3⟩:=hp
  obtain⟨R,hR⟩:∃ R,R=List.replicate (m*z) AV.any:=⟨_,rfl⟩
  have hRl:R.length=m*z:=by rw[hR,List.length_replicate]
  have hcne:cells≠[]:=by
   intro h
   rw[h] at hn
   have:0 < n*z:=Nat.mul_pos (by omega) hz0
   simp at hn;omega
  have hbs3:g3.bs o=E.bs0 o:=(hs3.shr0 o (by omega)).2
  have hnm:(n+m)*z≤cp*z:=Nat.mul_le_mul_right _ (by omega)
  have hext:=hs3.extObj (i:=o) (k:=m*z) hc hbk hcne (by rw[hbs3,← y3',hnz];rw[Nat.add_mul] at hnm;omega)
  rw[← hR] at hext
  have hX0:cells++R=A++D++R:=by rw[hAD]
  have hb0:blkB (cells++R)=true:=by
   cases hcc:cells with
   | nil=>exact absurd hcc hcne
   | cons c cs =>
    rw[hcc] at hbk
    unfold blkB
    split
    ·rename_i hl
     simp only[List.cons_append,List.cons.injEq,List.append_eq_nil_iff] at hl
     obtain⟨rfl,rfl,_⟩:=hl
     simp [blkB] at hbk
    ·rename_i hl
     simp only[List.cons_append,List.cons.injEq,List.append_eq_nil_iff] at hl
     obtain⟨rfl,rfl,_⟩:=hl
     simp [blkB] at hbk
    ·rfl
  have hp:Post E (ST [(0,.ss o 0 n z),(1,.int .i64 i),(2,.sl .full z V),(7,.int .i64 m),(8,.int .i64 n),(16,.bool false),(22,.bool false),(26,.int .i64 n),(27,.int .i64 m),(28,.int .i64 ((n+m:Nat):Int)),(29,.ss o 0 n z),(30,.int .i64 cp),(31,.bool false)] [] (sh.set o (cells++R))) a w:=⟨g3,hext⟩
  have hgs:∀ X:List AV,(sh.set o X)[o]?=some X:=fun X=>List.getElem?_set_self hol
  have hslx:slxA z (sh.set o (cells++R)) (.ss o 0 n z) none (.int .i64 ((n+m:Nat):Int))=some (.ss o 0 (n+m) z):=
   slxA_hi hz1 (hgs _) hb0 (by rw[List.length_append,hnz,hRl,Nat.add_mul];omega)
  have hov:Gx (ovB f72 z) (fun _=>none) f72 [.sl .full z V,.ss o ((i+m)*z) (n+m - (i+m)) z] (sh.set o (cells++R))=some (.bool false,sh.set o (cells++R)):=
   Gx_base (by rw[hV];simp [ovB,hgs,hb0])
  obtain⟨P2,hP2⟩:∃ P2,P2=(D++R).take (m*z):=⟨_,rfl⟩
  have hP2l:P2.length=m*z:=by rw[hP2,List.length_take,List.length_append,hRl];omega
  obtain⟨Q2,hQ2⟩:∃ Q2,Q2=(D++R).drop (m*z):=⟨_,rfl⟩
  have hQ2l:Q2.length=D.length:=by rw[hQ2,List.length_drop,List.length_append,hRl];omega
  have hPQ:cells++R=(A++P2)++Q2:=by rw[hX0,hP2,hQ2,List.append_assoc,List.append_assoc,List.take_append_drop]
  have hb1:blkB (A++P2++D)=true:=by
   have h2:0 < (n - i)*z:=Nat.mul_pos (by omega) hz0
   have h3:0 < m*z:=Nat.mul_pos (by omega) hz0
   unfold blkB
   split
   ·rename_i hl
    have:=congrArg List.length hl
    simp at this;omega
   ·rename_i hl
    have:=congrArg List.length hl
    simp at this;omega
   ·rfl
  have hcp1:cpyA z (sh.set o (cells++R)) (.ss o (i*z) (n+m - i) z) (.ss o ((i+m)*z) (n+m - (i+m)) z)=some (.int .i64 ((rowsOf z (n - i) D).length:Int),sh.set o (A++P2++D)):=by
   have hp:=putC_app (A++P2) Q2 D (by omega)
   have hAP:(A++P2).length=(i+m)*z:=by rw[List.length_append,hAl,hP2l,Nat.add_mul]
   have hdd:Q2.drop D.length=[]:=List.drop_eq_nil_of_le (by omega)
   rw[hAP,hdd,List.append_nil,← hPQ,← f1] at hp
   have hrw:rowsS false z (sh.set o (cells++R)) (truncV (n+m - (i+m)) (.ss o (i*z) (n+m - i) z))=some (rowsOf z (n - i) D):=by
    have hmn:min (n+m - i) (n+m - (i+m))=n - i:=by omega
    have hseg:=rowsC_seg hz0 A D R (n - i) hDl hDf
    rw[← hAD,hAl] at hseg
    simp only[truncV,hmn,rowsS,hgs,Option.bind_some,hseg,true_and,if_true]
   rw[cpyA_some hz0 hrw (by rw[f3];omega) (hgs _) hb0 hp,List.set_set,f1]
  have hcp2:cpyA z (sh.set o (A++P2++D)) (.sl .full z V) (.ss o (i*z) (n+m - i) z)=some (.int .i64 (V.length:Int),sh.set o (A++V.flatten++D)):=by
   have hp:=putC_app A (P2++D) V.flatten (by rw[List.length_append];omega)
   have hdd:(P2++D).drop V.flatten.length=D:=by rw[hVl,← hP2l,List.drop_left]
   rw[hAl,hdd,← List.append_assoc] at hp
   rw[cpyA_some hz0 (l2:=V) (by simp [truncV,rowsS,rowsA]) (by omega) (hgs _) hb1 hp,List.set_set]
  have x13:execX (Gx (ovB f72 z) (fun _=>none)) (insR z f72) (ST [(0,.ss o 0 n z),(1,.int .i64 i),(2,.sl .full z V),(7,.int .i64 m),(8,.int .i64 n),(16,.bool false),(22,.bool false),(26,.int .i64 n),(27,.int .i64 m),(28,.int .i64 ((n+m:Nat):Int)),(29,.ss o 0 n z),(30,.int .i64 cp),(31,.bool false)] [] (sh.set o (cells++R)))=some (.ret,ST [(0,.ss o 0 (n+m) z),(1,.int .i64 i),(2,.sl .full z V),(6,.ss o 0 (n+m) z),(7,.int .i64 m),(8,.int .i64 n),(16,.bool false),(22,.bool false),(26,.int .i64 n),(27,.int .i64 m),(28,.int .i64 ((n+m:Nat):Int)),(29,.ss o 0 n z),(30,.int .i64 cp),(31,.bool false),(68,.bool true)] [] (sh.set o (A++V.flatten++D))):=by
   simp only[insR,mvO,go_sem,List.set_cons_zero,List.set_cons_succ,List.take_succ_cons,and_false,false_and,and_true,true_and,Nat.reduceAdd,Nat.reduceEqDiff,Nat.reduceLT,↓reduceIte,decide_eq_true_eq,List.take_nil,beq_self_eq_true,bne_self_eq_false,List.take_zero,List.map_cons,List.map_nil,Int.reduceNeg,Bool.and_true,and_self,Bool.true_and,Bool.and_self,ne_eq,not_true_eq_false,decide_false,decide_true,Bool.false_eq_true,Nat.reduceAdd,Option.map_some,Option.map_none,Option.bind_some,Option.bind_none,List.length_nil,List.length_cons,List.append_nil,Bool.and_false,w64,demV_sl,Int.cast_ofNat_Int,Int.reduceLT,Int.reduceAdd,Int.reduceSub,Int.reduceLE,Int.reduceEq,Int.reduceToNat,Int.toNat_natCast,Nat.reduceSub,Nat.reduceMul,Nat.reduceLeDiff,Nat.zero_add,Int.zero_add,not_false_eq_true,Bool.not_true,Bool.not_false,Bool.false_and,List.cons_append,List.nil_append,e1,e2,e2',e5,e7,e8,e9,e9',e10,e10',or_true,hslx,hov,hcp1,hcp2]
  refine execX_soundB hmix hB br x13 hp fun a w hp=>?_
  obtain⟨g4,hs4⟩:=hp
  rw[hXi] at hXf ⊢
  obtain⟨g5,h5⟩:=hs4.moveTo (i:=o) (cells:=A++V.flatten++D) (t:=6) (n:=n+m) (z:=z) (hgs _) (flat_blk hXf) (flat_all_nown hXf) rfl
  refine⟨.inl rfl,_,⟨g5,h5⟩,?_⟩
  simp [finA,resultsA,resA,frzV,packA,outB,plainB,demV,look,ST,upd]
end
end Go.Av
namespace Go.Av
variable [Gtab]
open Go.RowKit
def insOK (z bytes n:Nat) (ii:Int) (cells:List AV) (V:List (List AV)):Bool:=
 decide (0≤ii∧ii < (n:Int)∧n*z=cells.length) && cells.all flatB && V.all (fun e=>e.length == z) && V.flatten.all flatB && decide ((n+V.length)*bytes≤140737488355328∧n+V.length≤4611686018427387904)
def insB (z bytes:Nat):List AV→List (List AV)→Option (AV × List (List AV))
 | [.ss o 0 n z1,.int .i64 ii,.sl .full z2 ((c :: r) :: V)],sh=>(sh[o]?).bind fun cells=>if z1=z∧z2=z∧insOK z bytes n ii cells ((c :: r) :: V)=true then some (.ss sh.length 0 (n+(V.length+1)) z,sh.set o dead++[insX z ii.toNat cells ((c :: r) :: V)]) else none
 | _,_=>none
theorem insB_sound {P:Program} (hmix:P.follows .mixedOrders=true) {f f72:FuncId} {z bytes:Nat} {zero:List AV} (hok:okInsert P f f72 z bytes zero=true) (hB:Good P (ovB f72 z)) (hz1:1 < z) (hzl:zero.length=z) (hzf:zero.all flatB=true) {args:List AV} {sh sh':List (List AV)} {r:AV}
  (h:insB z bytes args sh=some (r,sh')):Real P f∧SemCall P f args sh r sh':=by
 unfold insB at h
 split at h
 ·rename_i o n z1 ii z2 c r0 V
  obtain⟨cells,hc,h1⟩:=Option.bind_eq_some_iff.1 h
  obtain⟨hq,h2⟩:=ite_some h1
  obtain⟨rfl,rfl,hin⟩:=hq
  unfold insOK at hin
  simp only[Bool.and_eq_true,decide_eq_true_eq,List.all_eq_true] at hin
  obtain⟨⟨⟨⟨⟨a1,a2,a3⟩,a4⟩,a5⟩,a6⟩,a7,a8⟩:=hin
  obtain⟨i,rfl⟩:=Int.eq_ofNat_of_zero_le a1
  simp only[Option.some.injEq,Prod.mk.injEq] at h2
  obtain⟨rfl,rfl⟩:=h2
  exact insert_sound hmix hok hB (by omega) hz1 hzl hzf (V:=(c :: r0) :: V) rfl hc (List.all_eq_true.2 a4) a3 (by simpa using a2) (fun e he=>by simpa using a5 e he) (List.all_eq_true.2 a6) a7 a8
 ·cases h
end Go.Av
namespace Go.Av
variable [Gtab]
open Go.RowKit
section
variable {P:Program}
theorem After.same0 {sh:List (List AV)} {kd:Nat→BK} {β bs:Nat→Nat} {S0:Nat→Nat→Prop} {O0:Nat→Option Nat} {w:World} (h:EntOK sh kd β bs S0 O0 w) {r:AV} {v:Value} (hr:RepT (cx0 β bs (S1 S0 w w kd) w sh.length) noOwn r v) :
  After S0 O0 β bs w sh sh r v kd β bs w:=by
 obtain⟨⟨e1,e2⟩,e3,e4,e5,_⟩:=h
 have hle:Cx.le (cx0 β bs S0 w sh.length) (cx0 β bs (S1 S0 w w kd) w sh.length):=⟨fun b o hS=>⟨.inl hS,rfl⟩,Nat.le_refl _,fun _ _=>rfl,fun _ _=>rfl,fun s hs=>hs.elim⟩
 refine { same:=fun _ _=>⟨rfl,rfl⟩,len:=Nat.le_refl _,shok:=⟨fun i cells hi hd=>?_,e2⟩,rep:=hr,os:=rfl,tape:=rfl,output:=rfl,size:=Nat.le_refl _,frame:=fun _ _ _ _=>rfl,sframe:=fun _ _ _=>rfl,o0:=fun b k hk=>?_,own0:=fun b t k hk=>?_,new:=fun i h1 h2=>by omega,deads:=fun _ h=>h }
 ·obtain⟨f1,f2⟩:=e1 i cells hi hd
  exact⟨f1,f2.mono hle rfl (fun _ _ _ _ _ h=>h)⟩
 ·exact (e4 b k hk).2.2
 ·rcases Nat.lt_or_ge b w.heap.size with hb | hb
  ·exact .inr (e5 b t k hk hb)
  ·exact .inl hb
def ibB (f0:Nat):Calls':=fun f args sh=>if f=f0 then (match args with
 | [.str s,.int .u8 c]=>some (.int .i64 (Lib.indexByte s c.toNat.toUInt8),sh)
 | _=>none) else none
theorem ibB_sound {f0:FuncId} {fn:Func} (hf:P.funcs[f0]?=some fn) (hname:(fn.name == "runtime.NumGoroutine")=false) (hb:fn.body.isNone=true) (hn:Extern.findNext fn=none)
  (he:Extern.find fn=some Extern.BytealgIndexByte.indexByte):Good P (ibB f0):=by
 intro f args sh r sh' h
 unfold ibB at h
 split at h
 ·rename_i hff
  subst hff
  split at h
  ·rename_i s c
   simp only[Option.some.injEq,Prod.mk.injEq] at h
   obtain⟨rfl,rfl⟩:=h
   refine .inr ?_
   intro kd β bs S0 O0 w vs hent hargs
   obtain⟨xs⟩:=vs
   have hl2:=hargs.length
   simp at hl2
   match xs,hl2 with
   | [u,v],_ =>
    obtain⟨h1,h2,_⟩:=hargs
    obtain⟨b,rfl,rfl⟩:∃ b,u=.string b∧b.data.toList=s:=h1
    have h2':v=.int .u8 c:=h2
    subst h2'
    refine⟨.int .i64 (Lib.indexByte b.data.toList c.toNat.toUInt8),w,kd,β,bs,?_,After.same0 hent rfl⟩
    rw[run_callFunc_extern hf hname hb hn he]
    have:(#[.string b,.int .u8 c]:Array Value)=⟨[.string b,.int .u8 c]⟩:=rfl
    rw[← this]
    show ((Extern.BytealgIndexByte.indexByte #[.string b,.int .u8 c]).run P w).andThen _=_
    rw[Lib.run_indexByteString]
    rfl
  ·cases h
 ·cases h
end
end Go.Av
namespace Go.Av
@[go_sem] theorem e_set0 {α:Type} (a b:α) (l:List α):(a :: l).set 0 b=b :: l:=(rfl)
@[go_sem] theorem e_setS {α:Type} (a b:α) (l:List α) (n:Nat):(a :: l).set (n+1) b=a :: l.set n b:=(rfl)
@[go_sem] theorem e_takeS {α:Type} (a:α) (l:List α) (n:Nat):(a :: l).take (n+1)=a :: l.take n:=(rfl)
@[go_sem] theorem e_takeN {α:Type} (n:Nat):([]:List α).take n=[]:=List.take_nil
@[go_sem] theorem e_take0 {α:Type} (l:List α):l.take 0=[]:=(rfl)
@[go_sem] theorem e_andf (p:Prop):(p∧False)=False:=and_false p
@[go_sem] theorem e_fand (p:Prop):(False∧p)=False:=false_and p
@[go_sem] theorem e_andt (p:Prop):(p∧True)=p:=and_true p
@[go_sem] theorem e_tand (p:Prop):(True∧p)=p:=true_and p
@[go_sem] theorem e_dec (p:Prop) [Decidable p]:(decide p=true)=p:=decide_eq_true_eq
@[go_sem] theorem e_beq {α:Type} [BEq α] [ReflBEq α] (a:α):(a == a)=true:=beq_self_eq_true a
@[go_sem] theorem e_bne {α:Type} [BEq α] [LawfulBEq α] (a:α):(a != a)=false:=bne_self_eq_false a
@[go_sem] theorem e_mapC {α β:Type} (f:α→β) (a:α) (l:List α):(a :: l).map f=f a :: l.map f:=(rfl)
@[go_sem] theorem e_mapN {α β:Type} (f:α→β):([]:List α).map f=[]:=(rfl)
@[go_sem] theorem e_bt (b:Bool):(b && true)=b:=Bool.and_true b
@[go_sem] theorem e_tb (b:Bool):(true && b)=b:=Bool.true_and b
@[go_sem] theorem e_bf (b:Bool):(b && false)=false:=Bool.and_false b
@[go_sem] theorem e_fb (b:Bool):(false && b)=false:=Bool.false_and b
@[go_sem] theorem e_bb (b:Bool):(b && b)=b:=Bool.and_self b
@[go_sem] theorem e_ands (p:Prop):(p∧p)=p:=and_self p
@[go_sem] theorem e_ne {α:Type} (a b:α):(a≠b)=¬ (a=b):=(rfl)
@[go_sem] theorem e_nt:(¬ True)=False:=not_true_eq_false
@[go_sem] theorem e_nf:(¬ False)=True:=not_false_eq_true
@[go_sem] theorem e_df (h:Decidable False):@decide False h=false:=decide_false h
@[go_sem] theorem e_dt (h:Decidable True):@decide True h=true:=decide_true h
@[go_sem] theorem e_ft:(false=true)=False:=Bool.false_eq_true
@[go_sem] theorem e_mapS {α β:Type} (f:α→β) (a:α):(some a).map f=some (f a):=(rfl)
@[go_sem] theorem e_mapO {α β:Type} (f:α→β):(none:Option α).map f=none:=(rfl)
@[go_sem] theorem e_bindS {α β:Type} (f:α→Option β) (a:α):(some a).bind f=f a:=(rfl)
@[go_sem] theorem e_bindO {α β:Type} (f:α→Option β):(none:Option α).bind f=none:=(rfl)
@[go_sem] theorem e_len0 {α:Type}:([]:List α).length=0:=(rfl)
@[go_sem] theorem e_lenC {α:Type} (a:α) (l:List α):(a :: l).length=l.length+1:=(rfl)
@[go_sem] theorem e_appN {α:Type} (l:List α):l++[]=l:=List.append_nil l
@[go_sem] theorem e_Napp {α:Type} (l:List α):[]++l=l:=(rfl)
@[go_sem] theorem e_Capp {α:Type} (a:α) (l m:List α):(a :: l)++m=a :: (l++m):=(rfl)
@[go_sem] theorem e_toNat (n:Nat):((n:Int)).toNat=n:=Int.toNat_natCast n
@[go_sem] theorem e_z (n:Nat):0+n=n:=Nat.zero_add n
@[go_sem] theorem e_zi (n:Int):0+n=n:=Int.zero_add n
@[go_sem] theorem e_nott:(!true)=false:=(rfl)
@[go_sem] theorem e_notf:(!false)=true:=(rfl)
@[go_sem] theorem e_w64 {n:Int} (h1:-9223372036854775808≤n) (h2:n≤9223372036854775807):IntKind.i64.wrap n=n:=w64 h1 h2
@[go_sem] theorem e_dem (o:Own) (z:Nat) (x:List (List AV)):demV (.sl o z x)=.sl (demO o) z x:=demV_sl o z x
end Go.Av
namespace Go.Av
variable [Gtab]
open Go.RowKit
section
variable {P:Program}
def cloneA4 (z bytes:Nat) (zero:List AV):ACode:=.seq (.reg false [] [
 ⟨some 5,.mks z zero 0 [],[],.none,none,none⟩,
 ⟨some 6,.mv,[.t 0],.none,none,none⟩,
 ⟨some 7,.app false z bytes,[.t 5,.t 6],.none,some 5,none⟩,
 ⟨some 2,.mvo,[.t 7],.none,some 7,none⟩] []) .ret
def okCloneV (P:Program) (f:FuncId) (z bytes:Nat) (zero:List AV):Bool:=
 match P.funcs[f]? with
 | some fn=>(match fn.body with
  | some (.seq c0 (.seq (.seq (.region _ ops false) (.cond (.tmp 4) x .skip)) rest)) =>
   okCode P fn.ntmps c0 (cloneA0 z) && (match ops.toList with
     | [o3,o4]=>okO P fn.ntmps ops o3 ⟨some 3,.mv,[.t 0],.none,none,none⟩ && o4.dst == some 4 && o4.guard.isNone && isNilEq P (.tmp 3) o4.op
     | _=>false) && okCode P fn.ntmps x (.seq (cloneA0 z) .ret) && okCode P fn.ntmps rest (cloneA4 z bytes zero)
  | _=>false) && decide (8≤fn.ntmps) && okRes P fn.results.toList [.tmp 2] && !(fn.name == "runtime.NumGoroutine")
 | none=>false
theorem appA_fu {z bytes z':Nat} {l:List (List AV)} {o:Own} (hz:0 < z) (hzl:z'=z∨l=[]) (hb:appOK bytes l.length=true):appA false z bytes (.sl .full z []) (.sl o z' l)=some (.sl .own z l):=by
 have hb':l.length*bytes≤140737488355328∧l.length≤4611686018427387904:=by simpa [appOK] using hb
 cases l with
 | nil=>simp [appA,hz,rowsA]
 | cons a l =>
  have e:z'=z:=hzl.resolve_right (by simp)
  subst e
  simp only[List.length_cons] at hb'
  simp [appA,hz,rowsA,hb']
theorem cloneV_sound (hmix:P.follows .mixedOrders=true) {f:FuncId} {z bytes:Nat} {zero:List AV} (hok:okCloneV P f z bytes zero=true) (hz:0 < z) {m:Own} {z':Nat} {l:List (List AV)} {sh:List (List AV)}
  (hzl:z'=z∨l=[]) (hb:appOK bytes l.length=true):Real P f∧SemCall P f [.sl m z' l] sh (.sl .no z l) sh:=by
 unfold okCloneV at hok
 split at hok
 case h_2=>cases hok
 rename_i fn hfn
 simp only[Bool.and_eq_true,decide_eq_true_eq] at hok
 obtain⟨⟨⟨hbody,hnt⟩,hres⟩,hname⟩:=hok
 split at hbody
 case h_2=>cases hbody
 rename_i c0 id ops x rest hC
 simp only[Bool.and_eq_true] at hbody
 obtain⟨⟨⟨h0,h1⟩,h2⟩,h3⟩:=hbody
 split at h1
 case h_2=>cases h1
 rename_i o3 o4 hops
 simp only[Bool.and_eq_true] at h1
 obtain⟨⟨⟨k1,k2⟩,k3⟩,k4⟩:=h1
 have k2':o4.dst=some 4:=by simpa using k2
 have k3':o4.guard=none:=by simpa using k3
 refine fun_wp (nargs:=1) (keep:=true) (res:=[.tmp 2]) hfn hC (by omega) hres (by simpa using hname) rfl ?_
 intro E g a w hEt hn0 hs
 rw[← hEt] at h0 h2 h3 k1
 have hG:Good P (funA (fun _ _ _=>none) (fun _=>none) 0):=fun _ _ _ _ _ h=>by cases h
 rw[initA_ST] at hs
 refine wp_seq ?_
 have e0:execX GN (cloneA0 z) (ST (argl 0 [.sl m z' l]) [] sh)=some (.norm,ST [(0,.sl m z' l),(2,.sl .full z [])] [] sh):=by
  simp only[cloneA0,argl,go_sem,List.set_cons_zero,List.set_cons_succ,List.take_succ_cons,and_false,false_and,and_true,true_and,Nat.reduceAdd,Nat.reduceEqDiff,Nat.reduceLT,↓reduceIte,decide_eq_true_eq,List.take_nil,beq_self_eq_true,bne_self_eq_false,List.take_zero,List.map_cons,List.map_nil,Int.reduceNeg,Bool.and_true,and_self,Bool.true_and,Bool.and_self,ne_eq,not_true_eq_false,decide_false,decide_true,Bool.false_eq_true,Nat.reduceAdd,Option.map_some,Option.map_none,Option.bind_some,Option.bind_none,List.length_nil,List.length_cons,List.append_nil,Bool.and_false,w64,demV_sl,Int.cast_ofNat_Int,Int.reduceLT,Int.reduceAdd,Int.reduceSub,Int.reduceLE,Int.reduceEq,Int.reduceToNat,Int.toNat_natCast,Nat.reduceSub,Nat.reduceMul,Nat.reduceLeDiff,Nat.zero_add,Int.zero_add,not_false_eq_true,Bool.not_true,Bool.not_false,Bool.false_and,List.cons_append,List.nil_append]
 refine execX_sound hmix h0 e0 ⟨g,hs⟩ fun a1 w1 hp1=>?_
 refine wp_seq ?_
 refine wp_seq ?_
 refine wp_region_list ?_
 rw[hops]
 have e1:stepA (funA (fun _ _ _=>none) (fun _=>none) 0) ⟨some 3,.mv,[.t 0],.none,none,none⟩ (ST [(0,.sl m z' l),(2,.sl .full z [])] [] sh)=some (put (ST [(0,.sl m z' l),(2,.sl .full z [])] [] sh) (some 3) (demV (.sl m z' l))):=rfl
 have e1':put (ST [(0,.sl m z' l),(2,.sl .full z [])] [] sh) (some 3) (demV (.sl m z' l))=ST [(0,.sl m z' l),(2,.sl .full z []),(3,demV (.sl m z' l))] [] sh:=by
  simp only[put,ST,upd_look,setl]
  rfl
 rw[e1'] at e1
 refine wpl_step hG hp1 k1 e1 fun a2 w2 hp2=>?_
 obtain⟨g2,hs2⟩:=hp2
 have hr3:∃ A c,a2.eval (.tmp 3)=.slice A l.length c∧(l=[]∨A.isNone=false):=by
  obtain⟨A,c,q1,_,_,q4⟩:=hs2.rdSl (x:=.tmp 3) (r:=.t 3) (m:=match m with | .own=>.no | m=>m) (z:=z') (l:=l) (by simp [okR]) (by cases m<;>rfl)
  refine⟨A,c,q1,?_⟩
  rcases q4 with q4 | ⟨b,o,q4,_⟩
  ·exact .inl q4
  ·exact .inr (by rw[q4];rfl)
 obtain⟨A,c,q1,q2⟩:=hr3
 refine wpList_plain k3' fun K hK=>?_
 refine Oper.wp_mono ?_ (nilEq_sound hs2 (fun d hd=>by rw[k2'] at hd;injection hd with hd;rw[← hd,hEt];exact Nat.lt_of_lt_of_le (by decide) hnt) k4 q1)
 intro a3 w3 hp3
 rw[k2'] at hp3
 refine hK _ _ ?_
 show ((Code.cond (.tmp 4) x .skip).wp P _ _ _)
 have hp3':Post E (ST [(0,.sl m z' l),(2,.sl .full z []),(3,demV (.sl m z' l)),(4,.bool A.isNone)] [] sh) a3 w3:=by
  have:put (ST [(0,.sl m z' l),(2,.sl .full z []),(3,demV (.sl m z' l))] [] sh) (some 4) (.bool A.isNone)=ST [(0,.sl m z' l),(2,.sl .full z []),(3,demV (.sl m z' l)),(4,.bool A.isNone)] [] sh:=by
   simp only[put,ST,upd_look,setl]
   rfl
  rwa [← this]
 have hb4:a3.eval (.tmp 4)=.bool A.isNone:=by
  obtain⟨g3,hs3⟩:=hp3'
  exact hs3.rdBool (r:=.t 4) (by simp [okR]) rfl
 refine wp_cond hb4 ?_
 cases hA:A.isNone with
 | true =>
  have hl:l=[]:=by
   rcases q2 with q2 | q2
   ·exact q2
   ·rw[hA] at q2;cases q2
  subst hl
  rw[hA] at hp3'
  have e2:execX GN (.seq (cloneA0 z) .ret) (ST [(0,.sl m z' []),(2,.sl .full z []),(3,demV (.sl m z' [])),(4,.bool true)] [] sh)=some (.ret,ST [(0,.sl m z' []),(2,.sl .full z []),(3,demV (.sl m z' [])),(4,.bool true)] [] sh):=by
   simp only[cloneA0,go_sem,List.set_cons_zero,List.set_cons_succ,List.take_succ_cons,and_false,false_and,and_true,true_and,Nat.reduceAdd,Nat.reduceEqDiff,Nat.reduceLT,↓reduceIte,decide_eq_true_eq,List.take_nil,beq_self_eq_true,bne_self_eq_false,List.take_zero,List.map_cons,List.map_nil,Int.reduceNeg,Bool.and_true,and_self,Bool.true_and,Bool.and_self,ne_eq,not_true_eq_false,decide_false,decide_true,Bool.false_eq_true,Nat.reduceAdd,Option.map_some,Option.map_none,Option.bind_some,Option.bind_none,List.length_nil,List.length_cons,List.append_nil,Bool.and_false,w64,demV_sl,Int.cast_ofNat_Int,Int.reduceLT,Int.reduceAdd,Int.reduceSub,Int.reduceLE,Int.reduceEq,Int.reduceToNat,Int.toNat_natCast,Nat.reduceSub,Nat.reduceMul,Nat.reduceLeDiff,Nat.zero_add,Int.zero_add,not_false_eq_true,Bool.not_true,Bool.not_false,Bool.false_and,List.cons_append,List.nil_append]
  refine execX_sound hmix h2 e2 hp3' fun a4 w4 hp4=>?_
  exact⟨.inl rfl,_,hp4,by simp [finA,resultsA,resA,frzV,packA,outB,plainB,demV,ST,look,strV]⟩
 | false =>
  rw[hA] at hp3'
  refine wp_skip ?_
  have ha:∀ o:Own,appA false z bytes (.sl .full z []) (.sl o z' l)=some (.sl .own z l):=fun o=>appA_fu hz hzl hb
  cases l with
  | nil =>
   have e2:execX GN (cloneA4 z bytes zero) (ST [(0,.sl m z' []),(2,.sl .full z []),(3,demV (.sl m z' [])),(4,.bool false)] [] sh)=some (.ret,ST [(0,.sl m z' []),(2,.sl .own z []),(3,demV (.sl m z' [])),(4,.bool false),(5,.sl .full z []),(6,demV (.sl m z' [])),(7,.sl .no z [])] [] sh):=by
    simp only[cloneA4,mks0,ha,go_sem,List.set_cons_zero,List.set_cons_succ,List.take_succ_cons,and_false,false_and,and_true,true_and,Nat.reduceAdd,Nat.reduceEqDiff,Nat.reduceLT,↓reduceIte,decide_eq_true_eq,List.take_nil,beq_self_eq_true,bne_self_eq_false,List.take_zero,List.map_cons,List.map_nil,Int.reduceNeg,Bool.and_true,and_self,Bool.true_and,Bool.and_self,ne_eq,not_true_eq_false,decide_false,decide_true,Bool.false_eq_true,Nat.reduceAdd,Option.map_some,Option.map_none,Option.bind_some,Option.bind_none,List.length_nil,List.length_cons,List.append_nil,Bool.and_false,w64,demV_sl,Int.cast_ofNat_Int,Int.reduceLT,Int.reduceAdd,Int.reduceSub,Int.reduceLE,Int.reduceEq,Int.reduceToNat,Int.toNat_natCast,Nat.reduceSub,Nat.reduceMul,Nat.reduceLeDiff,Nat.zero_add,Int.zero_add,not_false_eq_true,Bool.not_true,Bool.not_false,Bool.false_and,List.cons_append,List.nil_append]
   refine execX_sound hmix h3 e2 hp3' fun a4 w4 hp4=>?_
   exact⟨.inl rfl,_,hp4,by simp [finA,resultsA,resA,frzV,packA,outB,plainB,demV,ST,look,strV]⟩
  | cons r l =>
   have hzz:z'=z:=by simpa using hzl
   subst hzz
   have hb':appOK bytes (l.length+1)=true:=hb
   have e2:execX GN (cloneA4 z' bytes zero) (ST [(0,.sl m z' (r :: l)),(2,.sl .full z' []),(3,demV (.sl m z' (r :: l))),(4,.bool false)] [] sh)=some (.ret,ST [(0,.sl m z' (r :: l)),(2,.sl .own z' (r :: l)),(3,demV (.sl m z' (r :: l))),(4,.bool false),(5,.sl .full z' []),(6,demV (.sl m z' (r :: l))),(7,.sl .no z' (r :: l))] [] sh):=by
    cases m<;>simp only[cloneA4,mks0,ha,go_sem,List.set_cons_zero,List.set_cons_succ,List.take_succ_cons,and_false,false_and,and_true,true_and,Nat.reduceAdd,Nat.reduceEqDiff,Nat.reduceLT,↓reduceIte,decide_eq_true_eq,List.take_nil,beq_self_eq_true,bne_self_eq_false,List.take_zero,List.map_cons,List.map_nil,Int.reduceNeg,Bool.and_true,and_self,Bool.true_and,Bool.and_self,ne_eq,not_true_eq_false,decide_false,decide_true,Bool.false_eq_true,Nat.reduceAdd,Option.map_some,Option.map_none,Option.bind_some,Option.bind_none,List.length_nil,List.length_cons,List.append_nil,Bool.and_false,w64,demV_sl,Int.cast_ofNat_Int,Int.reduceLT,Int.reduceAdd,Int.reduceSub,Int.reduceLE,Int.reduceEq,Int.reduceToNat,Int.toNat_natCast,Nat.reduceSub,Nat.reduceMul,Nat.reduceLeDiff,Nat.zero_add,Int.zero_add,not_false_eq_true,Bool.not_true,Bool.not_false,Bool.false_and,List.cons_append,List.nil_append,hz,hb']
   refine execX_sound hmix h3 e2 hp3' fun a4 w4 hp4=>?_
   exact⟨.inl rfl,_,hp4,by simp [finA,resultsA,resA,frzV,packA,outB,plainB,demV,ST,look,strV]⟩
end
def cloneV (z bytes:Nat):List AV→List (List AV)→Option (AV × List (List AV))
 | [.sl _ z' l],sh=>if z'=z∧appOK bytes l.length=true then some (.sl .no z l,sh) else none
 | _,_=>none
theorem cloneVB_sound {P:Program} (hmix:P.follows .mixedOrders=true) {f:FuncId} {z bytes:Nat} {zero:List AV} (hok:okCloneV P f z bytes zero=true) (hz:0 < z) {args:List AV} {sh sh':List (List AV)} {r:AV}
  (h:cloneV z bytes args sh=some (r,sh')):Real P f∧SemCall P f args sh r sh':=by
 unfold cloneV at h
 split at h
 ·rename_i m z' l
  split at h
  ·rename_i hc
   simp only[Option.some.injEq,Prod.mk.injEq] at h
   have:=cloneV_sound (m:=m) (sh:=sh) hmix hok hz (.inl hc.1) hc.2
   rw[← h.1,← h.2]
   exact this
  ·cases h
 ·cases h
end Go.Av
