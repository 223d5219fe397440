/- Layer 20: names open and greet, in order. -/
import Derived.Test.YtgekknefphagbaaGreatDoorQmx
import Derived.Test.YtgekknefphagbaaGreatDoorSdx
import Derived.KernelRfl
import Derived.Test.YtgekknefphagbaaGreatDoorTmx
namespace Go.Proofs.YtgekknefphagbaaGreatDoor
open Go.RowKit
set_option linter.unusedSimpArgs false
set_option linter.unusedVariables false
set_option linter.unusedSectionVars false
set_option maxHeartbeats 4000000
set_option maxRecDepth 100000
section
def opC (cl:Bool) (nm:YS) (i:Nat):CP:=⟨(i:Int),[],0,0,some nm,0,cl,[]⟩
def opB (ns:List YS) (cl:Bool) (k:Nat):Br:=⟨(List.range k).map (fun i=>opC cl (ns.getD i []) i),(ns.take k).map newA,[]⟩
def opF (ns:List YS) (cl:Bool) (k:Nat):Br:=⟨(opB ns cl k).conns++[newC (k:Int) 0],(ns.take k).map newA,[]⟩
theorem op_0 (ns:List YS) (cl:Bool):opB ns cl 0=newB:=by unfold opB newB;simp
theorem zjD (ns:List YS) (cl:Bool) (k:Nat):(opB ns cl k).conn k=none:=by
 unfold Br.conn
 refine List.find?_eq_none.2 fun x hx=>?_
 obtain ⟨i,hi,rfl⟩:=List.mem_map.1 hx
 have:=List.mem_range.1 hi
 simp [opC];omega
theorem op_open {ns:List YS} {cl:Bool} {k:Nat} (hk:k<16):zcX k 0 (opB ns cl k)=opF ns cl k:=by
 unfold zcX
 rw [if_neg (by rw [zjD];simp;omega)];rfl
theorem zpL (ns:List YS) (cl:Bool) (k:Nat):(opF ns cl k).conn k=some (newC k 0):=by
 have h:=zjD ns cl k
 unfold Br.conn at h ⊢
 show ((opB ns cl k).conns++[newC (k:Int) 0]).find? _=_
 rw [List.find?_append,h]
 simp [newC]
theorem znM (ns:List YS) (cl:Bool) (k:Nat):zbV k 0 (opF ns cl k)=opF ns cl k:=by
 have h:(opF ns cl k).conns.map (fun c=>if c.n=(k:Int) then { c with heard:=zbf 0 } else c)=(opF ns cl k).conns:=by
  conv=>rhs;rw [<-List.map_id (opF ns cl k).conns]
  refine List.map_congr_left fun c hc=>?_
  rcases List.mem_append.1 hc with h | h
  · obtain ⟨i,hi,rfl⟩:=List.mem_map.1 h
    have:=List.mem_range.1 hi
    rw [if_neg (by simp [opC];omega)];rfl
  · rw [List.mem_singleton.1 h];simp [newC,ze1]
 unfold zbV
 rw [h]
theorem zmH {ns:List YS} (hn:ns.Nodup) {i k:Nat} (hi:i<k) (hk:k<ns.length):ns.getD i []≠ns.getD k []:=by
 have h:=List.pairwise_iff_getElem.1 hn i k (by omega) hk hi
 simpa [List.getD,List.getElem?_eq_getElem hk,List.getElem?_eq_getElem (show i<ns.length by omega)] using h
theorem opF_of {ns:List YS} {cl:Bool} {k:Nat} (hn:ns.Nodup) (hk:k<ns.length):ofM (ns.getD k []) (opF ns cl k) = -1:=by
 unfold ofM
 rw [List.find?_eq_none.2 ?_];rfl
 intro c hc
 rcases List.mem_append.1 hc with h | h
 · obtain ⟨i,hi,rfl⟩:=List.mem_map.1 h
   have:=zmH hn (List.mem_range.1 hi) hk
   simpa [opC] using this
 · rw [List.mem_singleton.1 h];simp [newC]
theorem take_at {ns:List YS} {k:Nat} (hk:k<ns.length):ns.take (k+1)=ns.take k++[ns.getD k []]:=by
 rw [List.take_add_one,List.getElem?_eq_getElem hk]
 simp [List.getD,List.getElem?_eq_getElem hk]
theorem opF_ses {ns:List YS} {cl:Bool} {k:Nat} (hn:ns.Nodup) (hk:k<ns.length):(opF ns cl k).ses (ns.getD k [])=none:=by
 unfold Br.ses
 refine List.find?_eq_none.2 fun a ha=>?_
 obtain ⟨x,hx,rfl⟩:=List.mem_map.1 ha
 obtain ⟨i,hi,rfl⟩:=List.mem_iff_getElem.1 hx
 rw [List.length_take] at hi
 have h:=zmH hn (show i<k by omega) hk
 rw [zck,List.getElem_take]
 simpa [List.getD,List.getElem?_eq_getElem (show i<ns.length by omega)] using h
theorem opF_sz (ns:List YS) (cl:Bool) (k:Nat):BSz (opF ns cl k):=⟨Nat.zero_le _,fun a ha=>by
 obtain ⟨x,_,rfl⟩:=List.mem_map.1 ha
 exact ⟨Nat.zero_le _,fun _ h=>nomatch h⟩⟩
theorem op_next {ns:List YS} {cl:Bool} {k:Nat} (hk:k<ns.length):(⟨(opF ns cl k).conns.map (fun c=>if c.n=(k:Int) then zcH (ns.getD k []) (zdG 4 (ns.getD k []) cl 0 false [] [] 0 false) c else c),(opF ns cl k).sess++[newA (ns.getD k [])],(opF ns cl k).L⟩:Br)=opB ns cl (k+1):=by
 unfold opB
 congr 1
 · rw [List.range_succ,List.map_append]
   show ((opB ns cl k).conns++[newC (k:Int) 0]).map _=_
   rw [List.map_append]
   congr 1
   · unfold opB
     rw [List.map_map]
     refine List.map_congr_left fun i hi=>?_
     have:=List.mem_range.1 hi
     show (if (opC cl (ns.getD i []) i).n=(k:Int) then _ else _)=_
     rw [if_neg (by simp [opC];omega)]
   · simp [newC,zcH,zdG,opC,ze1]
 · rw [take_at hk,List.map_append];rfl
attribute [local irreducible] SN.own ownT ownC ownS ownB zae zbj zah zaK zb5 outM zaS opB opF
attribute [local irreducible] DW SeqD DV DOp DC DVX DVJ idsF usI sortS putM zaj onlyM
theorem zoV (bb:Nat) (s:BN) (ns:List YS) (cl:Bool) (k:Nat) (F:Own):(BOK s/\s.pl=opB ns cl k/\k<16)->DC Tryz.prog 13 [.raw (.pointer (some ⟨bb,0,none⟩)), .int .i64 k, .int .i64 0] ((ownB bb s++[])++F) fun d G=>∃ s':BN,(BOK s'/\s'.pl=opF ns cl k)/\d = .int .i64 0/\G=ownB bb s'++F:=fun ⟨h,hp,hk⟩=>by
 have:=zfZ bb s k 0 F ⟨h,by omega,by rw [hp];exact zjD ns cl k⟩
 rwa [hp,op_open hk] at this
theorem zp0 (bb:Nat) (m:Int) (T5:TypeId) (fr5:Nat×Nat) (s:BN) (ns:List YS) (cl:Bool) (k:Nat) (F:Own):(BOK s/\s.pl=opF ns cl k/\(k<ns.length/\ns.length<=16)/\ns.Nodup/\∀ k,k<ns.length->ns.getD k []≠[]/\(ns.getD k []).length<=1000)->DC Tryz.prog 14 [.raw (.pointer (some ⟨bb,0,none⟩)), .int .i64 k, .agg [.int .i64 1, .bool false, .bool false, .int .i64 0, .int .i64 0, .str [], .gs (.slice none 0 0) [], .int .i64 4, .str (ns.getD k []), .bool cl, .int .i64 0, .bool false, .str [], .gs (.slice none 0 0) [], .int .i64 0, .bool false, .bool false, .bool false, .str [], .gs (.slice none 0 0) [], .bool false, .int .i64 0, .gs (.slice none 0 0) [], .gs (.slice none 0 0) []], .int .i64 0, .agg [.gs (.slice none 0 0) [], .gs (.slice none 0 0) [], .gs (.slice none 0 0) [], .gs (.slice none 0 0) []]] ((knP T5 fr5::loose::knF::knA::knM m::(ownB bb s++[]))++F) fun d G=>∃ s':BN,(BOK s'/\s'.pl=opB ns cl (k+1))/\d = .tup [zc5 ⟨[⟨k,zdA false 0,false⟩],[],[],[]⟩, .int .i64 0]/\G=knP T5 fr5::loose::knF::knA::knM m::(ownB bb s'++F):=fun ⟨h,hp,⟨hk,h16⟩,hn,hN⟩=>by
 have hnm:=(hN k hk).1
 have hnl:=(hN k hk).2
 have h1:=zes bb m T5 fr5 s k 0 (zdG 4 (ns.getD k []) cl 0 false [] [] 0 false) [] [] [] [] F ⟨h,by rw [hp];exact opF_sz ns cl k,⟨_,by rw [hp];exact zpL ns cl k,rfl⟩,⟨by omega,by unfold nameM;rw [if_neg (show ¬ (zdG 4 (ns.getD k []) cl 0 false [] [] 0 false).client=[] from hnm)];show (ns.getD k []).length<=100000;omega,Nat.zero_le _,Nat.zero_le _,by show (-1000000000:Int)<=0;decide,by show (0:Int)<=1000000000;decide⟩,rfl⟩
 have e:=zf9 (b:=opF ns cl k) (n:=k) (now:=0) (p:=zdG 4 (ns.getD k []) cl 0 false [] [] 0 false) rfl hnm (fun h=>Bool.noConfusion h) (opF_of hn hk) (opF_ses hn hk)
 rw [hp,znM,e] at h1
 have h2:=op_next (cl:=cl) hk
 simp only [zdG] at h1 h2
 rw [h2] at h1
 exact DC.args (Les.cons le.rfl_ (Les.cons le.rfl_ (Les.cons (le.agg (Les.cons le.rfl_ (Les.cons le.rfl_ (Les.cons le.rfl_ (Les.cons le.rfl_ (Les.cons le.rfl_ (Les.cons le.rfl_ (Les.cons (le.gs rfl) (Les.cons le.rfl_ (Les.cons le.rfl_ (Les.cons le.rfl_ (Les.cons le.rfl_ (Les.cons le.rfl_ (Les.cons le.rfl_ (Les.cons (le.gs rfl) (Les.cons le.rfl_ (Les.cons le.rfl_ (Les.cons le.rfl_ (Les.cons le.rfl_ (Les.cons le.rfl_ (Les.cons (le.gs rfl) (Les.cons le.rfl_ (Les.cons le.rfl_ (Les.cons (le.gs rfl) (Les.cons (le.gs rfl) (Les.nil)))))))))))))))))))))))))) (Les.cons le.rfl_ (Les.cons (le.agg (Les.cons (le.gs rfl) (Les.cons (le.gs rfl) (Les.cons (le.gs rfl) (Les.cons (le.gs rfl) Les.nil))))) Les.nil))))) h1
theorem zdi {p:Prop} (h:p:=by first | exact sv | exact ⟨hB,hp,by omega⟩ | exact ⟨hs1,hp1,⟨by omega,h16⟩,hn,hN⟩ | fail):p:=h
section
attribute [local push_cast 2000] zc5 encOu List.map_cons List.map_nil
theorem znU (m:Int) (T5:TypeId) (fr5:Nat×Nat) (ns:List YS) (cl:Bool) (F:Own):(ns.length<=16/\ns.Nodup/\∀ k,k<ns.length->ns.getD k []≠[]/\(ns.getD k []).length<=1000)->DC Tryz.prog 25 [.sl (ns.map V.str), .bool cl] (knP T5 fr5::loose::knF::knA::knM m::([]:Own)++F) fun d G=>∃ (bb:Nat) (s':BN),(BOK s'/\s'.pl=opB ns cl ns.length)/\d = .raw (.pointer (some ⟨bb,0,none⟩))/\G=knP T5 fr5::loose::knF::knA::knM m::(ownB bb s'++F):=by
 intro hA
 obtain ⟨h16,hn,hN⟩:=hA
 refine DC.bodyS (n_:=28) (show Tryz.prog.funcs[25]? = some Tryz.f25 by kernel_rfl) rfl rfl (by rfl) ?_
 simp only [env0,List.append_assoc,List.cons_append,List.nil_append]
 have kw:=ksIs [0,1,4,5,6,11]
 have ow:=zaf []
 repeat' (first
  | ((with_reducible refine DW.loopB 0 (X:=Nat×BN) (fun x=>x.1<=ns.length/\BOK x.2/\x.2.pl=opB ns cl x.1) (fun x=>[(0, .sl (ns.map V.str)),(1, .bool cl),(5, .raw (.pointer (some ⟨bb,0,none⟩))),(6, .int .i64 x.1)]) (fun x=>knP T5 fr5::loose::knF::knA::knM m::(ownB bb x.2++[])) (fun x=>ns.length - x.1) ((0,s0)) ?_ ?_ ?_);exact (⟨Nat.zero_le _,hs0,by rw [op_0];exact hp0⟩);(exact kxcm);(try simp only [List.append_assoc,List.cons_append,List.nil_append]);refine pl_ ?_;intro ⟨k,S⟩ ⟨hk,hB,hp⟩;(try simp only [List.append_assoc,List.cons_append,List.nil_append]);(try simp only at hk hB hp))
  | refine g_ ?_
  | ((with_reducible refine And.intro ?_ ?_);(exact zdi))
  | (refine DW.cond (by rfl) ?_ ?_<;>(first | exact i0_ | (refine ic_ ?_;intro hb)))
  | ((with_reducible refine zaa ?_ ?_)<;>(intro hb;rw [hb];revert hb;(first | exact i0_ | (refine i_ ?_;intro hb))))
  | refine r_ ?_
  | refine k_ ?_
  | (refine p_ (zn0 _) ?_ (ha:=by exact zdi);rintro d H1 ⟨bb,s0,⟨hs0,hp0⟩,rfl,rfl⟩<;>refine s_ ?_)
  | (refine p_ (zoV _ _ _ _ _ _) ?_ (ha:=by exact zdi);rintro d H1 ⟨s1,⟨hs1,hp1⟩,rfl,rfl⟩<;>refine s_ ?_)
  | (refine p_ (zp0 _ _ _ _ _ _ _ _ _) ?_ (ha:=by exact zdi);rintro d H1 ⟨s2,⟨hs2,hp2⟩,rfl,rfl⟩<;>refine s_ ?_)
  | refine o_ ?_
  | refine f_ ?_
  | ((fail_if_success (have zz:=v2));with_reducible intro v2)
  | ((fail_if_success (have zz:=v3));with_reducible intro v3)
  | with_reducible intro b)
 all_goals first
 | (((refine ⟨(k+1,s2),⟨by (try simp only);omega,hs2,hp2⟩,by (try simp only);omega,?_,?_⟩);(focus (simp [Sub,get,zaP]));(try dsimp only);(exact sub_);done))
 | (((have hkl:k=ns.length:=by omega);(subst hkl);(refine ⟨_,_,le.rfl_,⟨bb,S,⟨hB,hp⟩,rfl,rfl⟩,?_⟩);(exact sub_);done))
 | (trace_state;fail)
end
end
section
def subPk (f:YS) (q:Int):Pk:=⟨8,false,false,0,1,[],[],0,[],false,0,false,[],[],0,false,false,false,[],[],false,0,[(f,q)],[]⟩
def tk1 (cl:Bool) (f:YS):Br:=⟨[opC cl [107] 0,opC cl [108] 1],[subA f 1 (newA [107]),newA [108]],[((f,[107]),1)]⟩
def tk3 (cl c2:Bool) (f:YS):Br:=⟨[opC cl [108] 1,opC c2 [107] 7],if (!cl && !c2)=true then [subA f 1 (newA [107]),newA [108]] else [newA [108],newA [107]],if (!cl && !c2)=true then [((f,[107]),1)] else []⟩
theorem tk_op (cl:Bool):opB [[107],[108]] cl 2=⟨[opC cl [107] 0,opC cl [108] 1],[newA [107],newA [108]],[]⟩:=rfl
theorem tk_sub {f:YS} (hf:filterB f=true) (cl:Bool):subX [107] (subPk f 1) (opB [[107],[108]] cl 2)=(subA f 1 (newA [107]),[((f,[107]),1)],[f]):=by
 rw [tk_op]
 show sS [107] (newA [107],[],[]) (f,1)=_
 unfold sS
 rw [if_pos hf]
 unfold putL
 rw [if_pos hf];rfl
theorem tk_set (cl:Bool) (f:YS):setB 0 0 [107] (subA f 1 (newA [107]),[((f,[107]),1)],[f]) (opB [[107],[108]] cl 2)=tk1 cl f:=by
 rw [tk_op]
 unfold setB zbV tk1
 simp [opC,newA,ze1,subA]
theorem zg1 (cl:Bool) (f:YS):zcX 7 0 (tk1 cl f)=⟨[opC cl [107] 0,opC cl [108] 1,newC 7 0],[subA f 1 (newA [107]),newA [108]],[((f,[107]),1)]⟩:=by
 unfold zcX
 rw [if_neg (by simp [tk1,Br.conn,opC])];rfl
theorem zq6 (cl:Bool) (f:YS):zbV 7 0 (zcX 7 0 (tk1 cl f))=zcX 7 0 (tk1 cl f):=by
 rw [zg1]
 unfold zbV
 simp [opC,newC,ze1]
theorem zk9 (f:YS):sortS [f]=[f]:=by
 first | rfl | (unfold sortS;rfl) | simp [sortS] | (unfold sortS;simp)
theorem ze8 (f:YS):zaK [f]=[f]:=by
 unfold zaK
 rw [zk9]
 first | rfl | simp [Go.Lib.compact]
theorem ziT (cs:List CP) (f:YS):zah [107] (⟨cs,[subA f 1 (newA [107]),newA [108]],[((f,[107]),1)]⟩:Br)=([f],⟨cs,[newA [108]],[]⟩):=by
 have e1:(⟨cs,[subA f 1 (newA [107]),newA [108]],[((f,[107]),1)]⟩:Br).ses [107]=some (subA f 1 (newA [107])):=by simp [Br.ses,subA,newA]
 have e2:zav (subA f 1 (newA [107])).subs=[(f,1)]:=by
  show zav [(f,1)]=_
  unfold zav
  simp [zk9,lookA]
 have e3:za0 (f,[107]) [((f,([107]:YS)),(1:Int))]=[]:=by simp [za0]
 have e4:zal [107] [(f,1)] [((f,[107]),1)]=([f],[]):=by
  show fgS [107] ([],[((f,[107]),1)]) f=_
  unfold fgS
  simp only [e3]
  rfl
 unfold zah
 rw [e1]
 simp only [e2,e4]
 simp [subA,newA]
theorem zps (cl:Bool) (f:YS):zbj 0 (zcX 7 0 (tk1 cl f))=(⟨[],[],[],if cl=true then [f] else []⟩,⟨[opC cl [108] 1,newC 7 0],if cl=true then [newA [108]] else [subA f 1 (newA [107]),newA [108]],if cl=true then [] else [((f,[107]),1)]⟩):=by
 rw [zg1]
 have e1:(⟨[opC cl [107] 0,opC cl [108] 1,newC 7 0],[subA f 1 (newA [107]),newA [108]],[((f,[107]),1)]⟩:Br).conn 0=some (opC cl [107] 0):=by simp [Br.conn,opC]
 have e2:(⟨[opC cl [107] 0,opC cl [108] 1,newC 7 0],[subA f 1 (newA [107]),newA [108]],[((f,[107]),1)]⟩:Br).off 0=⟨[opC cl [108] 1,newC 7 0],[subA f 1 (newA [107]),newA [108]],[((f,[107]),1)]⟩:=by simp [Br.off,opC,newC]
 unfold zbj
 rw [e1,e2]
 cases cl
 · rfl
 · show ((⟨[],[],[],(zah [107] (⟨[opC true [108] 1,newC 7 0],[subA f 1 (newA [107]),newA [108]],[((f,[107]),1)]⟩:Br)).1⟩:Ef),(zah [107] (⟨[opC true [108] 1,newC 7 0],[subA f 1 (newA [107]),newA [108]],[((f,[107]),1)]⟩:Br)).2)=_
   rw [ziT];rfl
theorem tk_shut (cl:Bool) (f:YS):zae 0 (zcX 7 0 (tk1 cl f))=(⟨[⟨0,[],true⟩],[],[],if cl=true then [f] else []⟩,⟨[opC cl [108] 1,newC 7 0],if cl=true then [newA [108]] else [subA f 1 (newA [107]),newA [108]],if cl=true then [] else [((f,[107]),1)]⟩):=by
 unfold zae
 rw [zps]
 cases cl
 · simp [andM,zfJ]
 · simp [andM,ze8]
end
section
theorem zqa {n:Int} {nm:YS} {p:Pk} {E:Ef} {B:Br} (h:B.ses nm=none) (hd:zaK E.drops=E.drops):zbo n nm p 0 (E,B)=(⟨E.outs++[⟨n,zdA false 0,false⟩],E.pubs,E.adds,E.drops⟩,⟨B.conns.map (fun c=>if c.n=n then zcH nm p c else c),B.sess++[newA nm],B.L⟩):=by
 unfold zbo zdX zau sesD
 simp only [h,Option.isSome_none,Option.getD_none,Bool.false_eq_true,if_false,zgx,zgc]
 rw [zh4 n ⟨by decide,by decide⟩ (fun h=>Bool.noConfusion h)]
 simp [andM,hd]
theorem zpa {n:Int} {nm:YS} {p:Pk} {E:Ef} {B:Br} {a:SA} (h:B.ses nm=some a) (ha:zb4 0 a=a) (hp:zam 0 a=[]) (hd:zaK E.drops=E.drops):zbo n nm p 0 (E,B)=(⟨E.outs++[⟨n,zdA true 0,false⟩],E.pubs,E.adds,E.drops⟩,⟨B.conns.map (fun c=>if c.n=n then zcH nm p c else c),B.sess.map (fun x=>if x.name=nm then a else x),B.L⟩):=by
 unfold zbo zdX zau sesD
 simp only [h,Option.isSome_some,Option.getD_some,if_true,ha,hp]
 rw [zh4 n ⟨by decide,by decide⟩ (fun _=>rfl)]
 simp [andM,hd]
def tkP (c2:Bool):Pk:=zdG 4 [107] c2 0 false [] [] 0 false
theorem tk_over (cl:Bool) (f:YS):zaw [107] (zcX 7 0 (tk1 cl f))=(⟨[⟨0,[],true⟩],[],[],if cl=true then [f] else []⟩,⟨[opC cl [108] 1,newC 7 0],if cl=true then [newA [108]] else [subA f 1 (newA [107]),newA [108]],if cl=true then [] else [((f,[107]),1)]⟩):=by
 have ho:ofM [107] (zcX 7 0 (tk1 cl f))=0:=by rw [zg1];simp [ofM,opC]
 unfold zaw
 rw [ho,if_pos (Int.le_refl 0),tk_shut]
 cases cl
 · simp [andM,nilE,zfJ]
 · simp [andM,nilE,ze8]
theorem zq2 (cl c2:Bool) (f:YS):zbw c2 [107] (zaw [107] (zcX 7 0 (tk1 cl f)))=(⟨[⟨0,[],true⟩],[],[],if (!cl && !c2)=true then [] else [f]⟩,⟨[opC cl [108] 1,newC 7 0],if (!cl && !c2)=true then [subA f 1 (newA [107]),newA [108]] else [newA [108]],if (!cl && !c2)=true then [((f,[107]),1)] else []⟩):=by
 rw [tk_over]
 cases c2
 · cases cl<;>rfl
 · unfold zbw
   rw [if_pos rfl]
   cases cl
   · show ((andM _ ⟨[],[],[],(zah [107] (⟨[opC false [108] 1,newC 7 0],[subA f 1 (newA [107]),newA [108]],[((f,[107]),1)]⟩:Br)).1⟩:Ef),(zah [107] (⟨[opC false [108] 1,newC 7 0],[subA f 1 (newA [107]),newA [108]],[((f,[107]),1)]⟩:Br)).2)=_
     rw [ziT]
     simp [andM,ze8]
   · have e:(⟨[opC true [108] 1,newC 7 0],[newA [108]],[]⟩:Br).ses [107]=none:=by simp [Br.ses,newA]
     show ((andM _ ⟨[],[],[],(zah [107] (⟨[opC true [108] 1,newC 7 0],[newA [108]],[]⟩:Br)).1⟩:Ef),(zah [107] (⟨[opC true [108] 1,newC 7 0],[newA [108]],[]⟩:Br)).2)=_
     rw [zgh e]
     simp [andM,ze8]
theorem tk_con (cl c2:Bool) (f:YS):zaS 7 (tkP c2) 0 (zbV 7 0 (zcX 7 0 (tk1 cl f)))=(⟨[⟨0,[],true⟩,⟨7,zdA (!cl && !c2) 0,false⟩],[],[],if (!cl && !c2)=true then [] else [f]⟩,tk3 cl c2 f):=by
 rw [zq6]
 have hnm:nameM 7 (tkP c2)=[107]:=by unfold nameM;rw [if_neg (show ¬ (tkP c2).client=[] from by simp [tkP,zdG])];rfl
 unfold zaS
 rw [if_neg (fun h=>h rfl),if_neg (fun h=>by have:=h.1;simp [tkP,zdG] at this),if_neg (fun h=>Bool.noConfusion h.1),hnm]
 show zbo 7 [107] (tkP c2) 0 (zbw c2 [107] _)=_
 rw [zq2]
 have hd:zaK (if (!cl && !c2)=true then [] else [f])=(if (!cl && !c2)=true then [] else [f]):=by split<;>first | exact zfJ | exact ze8 f
 have hcs:[opC cl [108] 1,newC 7 0].map (fun c=>if c.n=7 then zcH [107] (tkP c2) c else c)=[opC cl [108] 1,opC c2 [107] 7]:=by simp [opC,newC,zcH,tkP,zdG,ze1]
 by_cases h:(!cl && !c2)=true
 · simp only [h,if_true] at hd ⊢
   rw [zpa (a:=subA f 1 (newA [107])) (by simp [Br.ses,subA,newA]) rfl rfl hd]
   unfold tk3
   simp only [h,if_true]
   rw [hcs]
   simp [subA,newA]
 · have h':(!cl && !c2)=false:=by simpa using h
   simp only [h',if_false,Bool.false_eq_true] at hd ⊢
   rw [zqa (by simp [Br.ses,newA]) hd]
   unfold tk3
   simp only [h',if_false,Bool.false_eq_true]
   rw [hcs]
   rfl
end
section
attribute [local irreducible] SN.own ownT ownC ownS zbG
attribute [local irreducible] DW SeqD DV DOp DC DVX DVJ idsF usI sortS putM zaj onlyM
theorem zhb {p:Prop} (h:p:=by first | exact sv | exact ⟨hts,hL⟩ | fail):p:=h
theorem zjY {P Q:Prop} (q:Q) (h:Hid Q->P:=by (intro q;simp (maxSteps:=1000000) (disch:=omega) only [push_cast,↓reduceIte,reduceCtorEq,Nat.reduceAdd,Nat.reduceMul,Nat.reduceLT,Nat.reduceLeDiff,Nat.reduceEqDiff,Nat.reduceSub,Int.reduceToNat,Int.reduceLT,Int.reduceLE,Int.reduceAdd,Int.reduceSub,Int.reduceMul,Int.reduceNeg,Nat.reduceBEq,Int.reduceBEq,Int.reduceBNe,Nat.reduceBNe,Int.reduceEq,hlk,hC];exact q.1)):P:=h ⟨q⟩
section
attribute [local push_cast 2000] za9 zaW za8 zaL za3 zaG zaV za7 zax za2 zaX zaB zaC zaY zaE zaq za6 zat zaZ za5 zas zba zaD zar zap zbh zbt zbi zaR zaH zaF Option.getD_some Option.getD_none Option.isSome_some Option.isSome_none
theorem filA_dc (bb cm sm t:Nat) (ts:TS) (F:Own):(TOK ts/\ts.L.length<=1000000000)->DC Tryz.prog 33 [.raw (.pointer (some ⟨bb,0,none⟩))] (loose :: .blk bb [.raw (.map (some cm)), .raw (.map (some sm)), .raw (.pointer (some ⟨t,0,none⟩))]::(ownT t ts++[])++F) fun d G=>d = .sl ((zbG ts.L).map V.str)/\G=(loose :: .blk bb [.raw (.map (some cm)), .raw (.map (some sm)), .raw (.pointer (some ⟨t,0,none⟩))]::(ownT t ts++[]))++F:=by
 intro hA
 obtain ⟨hts,hL⟩:=hA
 refine DC.bodyS (n_:=8) (show Tryz.prog.funcs[33]? = some Tryz.f33 by kernel_rfl) rfl rfl (by rfl) ?_
 simp only [env0,List.append_assoc,List.cons_append,List.nil_append]
 have kw:=ksIs [0,2]
 have ow:=zaf []
 have hlk:True:=trivial
 have hC:True:=trivial
 repeat' (first
  | ((refine DOp.load_ rfl rfl ?_);(repeat (with_reducible first | refine OnB.here ?_ | refine OnB.next ?_ | (refine OnB.inH (by assumption) ?_;with_reducible intro C) | refine OnB.skip ?_));refine zjY ?_)
  | ((refine DOp.look_ rfl rfl ?_);(repeat (with_reducible first | refine OnM.here ?_ | refine OnM.next ?_ | (refine OnM.inN (by assumption) ?_;with_reducible intro C hC) | (refine OnM.inK (by assumption) ?_;with_reducible intro C hC) | refine OnM.skip ?_));refine zjY ?_)
  | refine g_ ?_
  | ((with_reducible refine And.intro ?_ ?_);(exact zhb))
  | (refine DW.cond (by rfl) ?_ ?_<;>(first | exact i0_ | (intro hb;(try simp only [↓reduceCtorEq,not_true_eq_false,not_false_eq_true,hbs,Int.reduceBEq,Int.reduceBNe,Int.reduceEq] at hb);(try refine zjY ?_))))
  | ((with_reducible refine zaa ?_ ?_)<;>(intro hb;rw [hb];revert hb;(first | exact i0_ | (intro hb;(try simp only [↓reduceCtorEq,not_true_eq_false,not_false_eq_true,hbs,Int.reduceBEq,Int.reduceBNe,Int.reduceEq] at hb);(try refine zjY ?_)))))
  | ((first | refine rn_ ?_ | refine kn_ ?_)<;>(refine zjY ?_))
  | (refine q_ (tfil_dc _ _ _) ?_ (ha:=by exact zhb) (hk:=fun q=>q.1);refine zjY ?_)
  | ((refine on_ ?_);refine zjY ?_)
  | refine f_ ?_
  | with_reducible intro b)
 all_goals first
 | (exact kxb5)
 | (((refine ⟨_,_,le.rfl_,⟨rfl,rfl⟩,?_⟩);(try simp only [List.append_assoc,List.cons_append,List.nil_append]);(exact sub_);done))
 | (trace_state;fail)
end
theorem bfil_dc (bb:Nat) (s:BN) (F:Own):(BOK s/\s.pl.L.length<=1000000000)->DC Tryz.prog 33 [.raw (.pointer (some ⟨bb,0,none⟩))] ((loose::(ownB bb s++[]))++F) fun d G=>d = .sl ((zbG s.pl.L).map V.str)/\G=(loose::(ownB bb s++[]))++F:=by
 rintro ⟨h,hz⟩
 obtain ⟨cm,sm,t,ts,cs,ss⟩:=s
 refine DC.conv (filA_dc bb cm sm t ts (.map cm (entM (V.int .i64) pv (kvC cs)) :: .map sm (entM V.str pv (kvS ss))::(ownC cs++(ownS ss++F))) ⟨h.t,hz⟩) (by (simp only [ownB,BN.maps,List.append_assoc,List.cons_append,List.nil_append,List.append_nil]);exact sub_) ?_
 rintro d G ⟨rfl,rfl⟩
 exact ⟨_,_,le.rfl_,⟨rfl,rfl⟩,by (simp only [ownB,BN.maps,List.append_assoc,List.cons_append,List.nil_append,List.append_nil]);exact sub_⟩
end
section
theorem tk_sz (cl:Bool) {f:YS} (hf:f.length<=1000):BSz (zcX 7 0 (tk1 cl f)):=by
 rw [zg1]
 refine ⟨by show 1<=1000000000;decide,fun a ha=>?_⟩
 simp only [List.mem_cons,List.not_mem_nil,or_false] at ha
 rcases ha with rfl | rfl
 · refine ⟨by show 1<=1000000;decide,fun e he=>?_⟩
   have:e=(f,1):=List.mem_singleton.1 he
   subst this
   show f.length<=1000000
   omega
 · exact ⟨Nat.zero_le _,fun _ h=>nomatch h⟩
theorem tk_c7 (cl:Bool) (f:YS):(zcX 7 0 (tk1 cl f)).conn 7=some (newC 7 0):=by rw [zg1];simp [Br.conn,opC,newC]
theorem tk_c0 (cl:Bool) (f:YS):(tk1 cl f).conn 7=none:=by simp [Br.conn,opC,tk1]
theorem tk3_0 (cl c2:Bool) (f:YS):zcu 0 (tk3 cl c2 f)=[]:=by simp [zcu,Br.conn,opC,tk3]
theorem tk3_1 (cl c2:Bool) (f:YS):zcu 1 (tk3 cl c2 f)=[108]:=by simp [zcu,Br.conn,opC,tk3]
theorem tk3_7 (cl c2:Bool) (f:YS):zcu 7 (tk3 cl c2 f)=[107]:=by simp [zcu,Br.conn,opC,tk3]
theorem op_c0 (cl:Bool):(opB [[107],[108]] cl 2).conn 0=some (opC cl [107] 0):=by rw [tk_op];simp [Br.conn,opC]
theorem op_L (cl:Bool):(opB [[107],[108]] cl 2).L=[]:=rfl
attribute [local irreducible] SN.own ownT ownC ownS ownB zae zbj zah zaK zb5 outM zaS opB opF tk1 tk3 zcX subX setB filterB zdw
attribute [local irreducible] DW SeqD DV DOp DC DVX DVJ idsF usI sortS putM zaj onlyM
theorem kSub_dc (bb:Nat) (m:Int) (s:BN) (cl:Bool) (f:YS) (F:Own):(BOK s/\s.pl=opB [[107],[108]] cl 2/\filterB f=true/\f.length<=1000)->DC Tryz.prog 14 [.raw (.pointer (some ⟨bb,0,none⟩)), .int .i64 0, .agg [.int .i64 8, .bool false, .bool false, .int .i64 0, .int .i64 1, .str [], .gs (.slice none 0 0) [], .int .i64 0, .str [], .bool false, .int .i64 0, .bool false, .str [], .gs (.slice none 0 0) [], .int .i64 0, .bool false, .bool false, .bool false, .str [], .gs (.slice none 0 0) [], .bool false, .int .i64 0, .sl [.agg [.str f, .int .i64 1]], .gs (.slice none 0 0) []], .int .i64 0, .agg [.gs (.slice none 0 0) [], .gs (.slice none 0 0) [], .gs (.slice none 0 0) [], .gs (.slice none 0 0) []]] ((loose::knF::knA::knM m::(ownB bb s++[]))++F) fun d G=>∃ s':BN,(BOK s'/\s'.pl=tk1 cl f)/\d = .tup [zc5 ⟨outM 0 [sbP 1 ([(f,(1:Int))].map zdw)],[],[f],[]⟩, .int .i64 0]/\G=loose::knF::knA::knM m::(ownB bb s'++F):=fun ⟨h,hp,hf,hl⟩=>by
 have h1:=zj0 bb m s 0 0 (subPk f 1) [107] F ⟨h,⟨_,by rw [hp];exact op_c0 cl,rfl⟩,rfl,⟨by show 1<=1000;decide,fun k hk=>by
  have hk0:k=0:=by (have:k<1:=hk);omega
  subst hk0;show f.length<=1000000;omega,fun k hk=>by
  have hk0:k=0:=by (have:k<1:=hk);omega
  subst hk0;show (0:Int)<=1;decide,fun k hk=>by
  have hk0:k=0:=by (have:k<1:=hk);omega
  subst hk0;show (1:Int)<=2;decide⟩,by rw [hp,op_L];exact Nat.zero_le _⟩
 rw [hp,tk_sub hf,tk_set] at h1
 simp only [subPk] at h1
 exact DC.args (Les.cons le.rfl_ (Les.cons le.rfl_ (Les.cons (le.agg (Les.cons le.rfl_ (Les.cons le.rfl_ (Les.cons le.rfl_ (Les.cons le.rfl_ (Les.cons le.rfl_ (Les.cons le.rfl_ (Les.cons (le.gs rfl) (Les.cons le.rfl_ (Les.cons le.rfl_ (Les.cons le.rfl_ (Les.cons le.rfl_ (Les.cons le.rfl_ (Les.cons le.rfl_ (Les.cons (le.gs rfl) (Les.cons le.rfl_ (Les.cons le.rfl_ (Les.cons le.rfl_ (Les.cons le.rfl_ (Les.cons le.rfl_ (Les.cons (le.gs rfl) (Les.cons le.rfl_ (Les.cons le.rfl_ (Les.cons le.rfl_ (Les.cons (le.gs rfl) (Les.nil)))))))))))))))))))))))))) (Les.cons le.rfl_ (Les.cons (le.agg (Les.cons (le.gs rfl) (Les.cons (le.gs rfl) (Les.cons (le.gs rfl) (Les.cons (le.gs rfl) Les.nil))))) Les.nil))))) h1
theorem kOp7_dc (bb:Nat) (s:BN) (cl:Bool) (f:YS) (F:Own):(BOK s/\s.pl=tk1 cl f)->DC Tryz.prog 13 [.raw (.pointer (some ⟨bb,0,none⟩)), .int .i64 7, .int .i64 0] ((ownB bb s++[])++F) fun d G=>∃ s':BN,(BOK s'/\s'.pl=zcX 7 0 (tk1 cl f))/\d = .int .i64 0/\G=ownB bb s'++F:=fun ⟨h,hp⟩=>by
 have:=zfZ bb s 7 0 F ⟨h,by decide,by rw [hp];exact tk_c0 cl f⟩
 rwa [hp] at this
theorem zqw (bb:Nat) (m:Int) (T5:TypeId) (fr5:Nat×Nat) (s:BN) (cl c2:Bool) (f:YS) (F:Own):(BOK s/\s.pl=zcX 7 0 (tk1 cl f)/\f.length<=1000)->DC Tryz.prog 14 [.raw (.pointer (some ⟨bb,0,none⟩)), .int .i64 7, .agg [.int .i64 1, .bool false, .bool false, .int .i64 0, .int .i64 0, .str [], .gs (.slice none 0 0) [], .int .i64 4, .str [107], .bool c2, .int .i64 0, .bool false, .str [], .gs (.slice none 0 0) [], .int .i64 0, .bool false, .bool false, .bool false, .str [], .gs (.slice none 0 0) [], .bool false, .int .i64 0, .gs (.slice none 0 0) [], .gs (.slice none 0 0) []], .int .i64 0, .agg [.gs (.slice none 0 0) [], .gs (.slice none 0 0) [], .gs (.slice none 0 0) [], .gs (.slice none 0 0) []]] ((knP T5 fr5::loose::knF::knA::knM m::(ownB bb s++[]))++F) fun d G=>∃ s':BN,(BOK s'/\s'.pl=tk3 cl c2 f)/\d = .tup [zc5 ⟨[⟨0,[],true⟩,⟨7,zdA (!cl && !c2) 0,false⟩],[],[],if (!cl && !c2)=true then [] else [f]⟩, .int .i64 0]/\G=knP T5 fr5::loose::knF::knA::knM m::(ownB bb s'++F):=fun ⟨h,hp,hl⟩=>by
 have h1:=zes bb m T5 fr5 s 7 0 (tkP c2) [] [] [] [] F ⟨h,by rw [hp];exact tk_sz cl hl,⟨_,by rw [hp];exact tk_c7 cl f,rfl⟩,⟨by decide,by unfold nameM;rw [if_neg (show ¬ (tkP c2).client=[] from by simp [tkP,zdG])];show 1<=100000;decide,Nat.zero_le _,Nat.zero_le _,by show (-1000000000:Int)<=0;decide,by show (0:Int)<=1000000000;decide⟩,rfl⟩
 rw [hp,tk_con] at h1
 simp only [tkP,zdG] at h1
 exact DC.args (Les.cons le.rfl_ (Les.cons le.rfl_ (Les.cons (le.agg (Les.cons le.rfl_ (Les.cons le.rfl_ (Les.cons le.rfl_ (Les.cons le.rfl_ (Les.cons le.rfl_ (Les.cons le.rfl_ (Les.cons (le.gs rfl) (Les.cons le.rfl_ (Les.cons le.rfl_ (Les.cons le.rfl_ (Les.cons le.rfl_ (Les.cons le.rfl_ (Les.cons le.rfl_ (Les.cons (le.gs rfl) (Les.cons le.rfl_ (Les.cons le.rfl_ (Les.cons le.rfl_ (Les.cons le.rfl_ (Les.cons le.rfl_ (Les.cons (le.gs rfl) (Les.cons le.rfl_ (Les.cons le.rfl_ (Les.cons (le.gs rfl) (Les.cons (le.gs rfl) (Les.nil)))))))))))))))))))))))))) (Les.cons le.rfl_ (Les.cons (le.agg (Les.cons (le.gs rfl) (Les.cons (le.gs rfl) (Les.cons (le.gs rfl) (Les.cons (le.gs rfl) Les.nil))))) Les.nil))))) h1
theorem zjw (bb:Nat) (s:BN) (cl c2:Bool) (f:YS) (n:Int) (nm:YS) (F:Own):(BOK s/\s.pl=tk3 cl c2 f/\((n=0/\nm=[])\/(n=1/\nm=[108])\/(n=7/\nm=[107])))->DC Tryz.prog 17 [.raw (.pointer (some ⟨bb,0,none⟩)), .int .i64 n] ((ownB bb s++[])++F) fun d G=>d = .str nm/\G=(ownB bb s++[])++F:=fun ⟨h,hp,hn⟩=>by
 have h1:=znR bb s n F h
 rw [hp] at h1
 rcases hn with ⟨rfl,rfl⟩ | ⟨rfl,rfl⟩ | ⟨rfl,rfl⟩
 · rwa [tk3_0] at h1
 · rwa [tk3_1] at h1
 · rwa [tk3_7] at h1
end
end Go.Proofs.YtgekknefphagbaaGreatDoor
