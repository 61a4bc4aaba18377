import Derived.Shelf.Strings.Split
import Derived.Shelf.Strings.SlTrimAscii
import Derived.Shelf.Small.Wraps
import Derived.Shelf.Strings.Cut
import Derived.Shelf.Strconv.Atoi
import Derived.Shelf.SlSortCmp.NoneTotal
import Derived.Test.YtfejhikpfhgbeaaGreatDoorMachineIdleB
import Derived.Test.YtfejhikpfhgbeaaGreatDoorMachineIdleC
import Derived.Test.YtfejhikpfhgbeaaGreatDoorMachineIdleR
set_option maxHeartbeats 25600000
set_option maxRecDepth 100000
set_option linter.all false
namespace Go.Proofs.YtfejhikpfhgbeaaGreatDoor
open Go.Proofs.Tryz
open Go.RowKit
open SP
section
open Go.Shelf
def Tryz.laysSp_ren:Go.Shelf.Ren:=⟨fun|146=>123|221=>175|268=>218|138=>219|143=>220|195=>257|197=>208|218=>258|219=>259|260=>252|217=>286|225=>287|224=>288|267=>289|266=>300|314=>301|n=>n,fun|9=>9|31=>132|3=>3|4=>4|0=>0|105=>362|21=>21|5=>5|46=>264|119=>422|139=>425|138=>424|146=>440|51=>388|n=>n,fun|1=>4|3=>2|4=>3|n=>n⟩
theorem Tryz.laysSp:Go.Proofs.Lays.n146 prog Tryz.laysSp_ren:={
 mixed:=by kernel_rfl
 f138:=func219.trans (congrArg some (by kernel_rfl))
 f143:=func220.trans (congrArg some (by kernel_rfl))
 f146:=func123.trans (congrArg some (by kernel_rfl))
 f195:=func257.trans (congrArg some (by kernel_rfl))
 f197:=func208.trans (congrArg some (by kernel_rfl))
 f217:=func286.trans (congrArg some (by kernel_rfl))
 f218:=func258.trans (congrArg some (by kernel_rfl))
 f219:=func259.trans (congrArg some (by kernel_rfl))
 f221:=func175.trans (congrArg some (by kernel_rfl))
 f224:=func288.trans (congrArg some (by kernel_rfl))
 f225:=func287.trans (congrArg some (by kernel_rfl))
 f260:=func252.trans (congrArg some (by kernel_rfl))
 f266:=func300.trans (congrArg some (by kernel_rfl))
 f267:=func289.trans (congrArg some (by kernel_rfl))
 f268:=func218.trans (congrArg some (by kernel_rfl))
 f314:=func301.trans (congrArg some (by kernel_rfl))
 t0:=underlying0
 a0:=isAgg0
 z0:=sizeOf0
 v0:=zeroValue0
 t3:=underlying3
 a3:=isAgg3
 z3:=sizeOf3
 v3:=zeroValue3
 t4:=underlying4
 a4:=isAgg4
 z4:=sizeOf4
 v4:=zeroValue4
 t5:=underlying5
 a5:=isAgg5
 z5:=sizeOf5
 v5:=zeroValue5
 t9:=underlying9
 a9:=isAgg9
 z9:=sizeOf9
 v9:=zeroValue9
 t21:=underlying21
 a21:=isAgg21
 z21:=sizeOf21
 v21:=zeroValue21
 t31:=underlying132
 a31:=isAgg132
 z31:=sizeOf132
 v31:=zeroValue132
 t46:=underlying264
 a46:=isAgg264
 z46:=sizeOf264
 v46:=zeroValue264
 t51:=underlying388
 a51:=isAgg388
 z51:=sizeOf388
 v51:=zeroValue388
 t105:=underlying362
 a105:=isAgg362
 z105:=sizeOf362
 v105:=zeroValue362
 t119:=underlying422
 a119:=isAgg422
 z119:=sizeOf422
 t138:=underlying424
 a138:=isAgg424
 z138:=sizeOf424
 v138:=zeroValue424
 t139:=underlying425
 a139:=isAgg425
 z139:=sizeOf425
 v139:=zeroValue425
 t146:=underlying440
 a146:=isAgg440
 z146:=sizeOf440
 v146:=zeroValue440
 g1:=by kernel_rfl
 g3:=by kernel_rfl
 g4:=by kernel_rfl}
def Tryz.laysTr_ren:Go.Shelf.Ren:=⟨fun|160=>176|232=>222|231=>221|227=>223|234=>225|233=>224|236=>227|235=>226|228=>260|271=>262|151=>261|197=>208|120=>291|152=>290|260=>252|137=>302|119=>303|224=>288|225=>287|217=>286|266=>300|n=>n,fun|9=>9|4=>4|3=>3|5=>5|117=>374|116=>373|0=>0|124=>377|21=>21|105=>362|46=>264|119=>422|139=>425|138=>424|n=>n,fun|3=>2|4=>3|n=>n⟩
theorem Tryz.laysTr:Go.Proofs.Lays.n160 prog Tryz.laysTr_ren:={
 mixed:=by kernel_rfl
 f119:=func303.trans (congrArg some (by kernel_rfl))
 f120:=func291.trans (congrArg some (by kernel_rfl))
 f137:=func302.trans (congrArg some (by kernel_rfl))
 f151:=func261.trans (congrArg some (by kernel_rfl))
 f152:=func290.trans (congrArg some (by kernel_rfl))
 f160:=func176.trans (congrArg some (by kernel_rfl))
 f197:=func208.trans (congrArg some (by kernel_rfl))
 f217:=func286.trans (congrArg some (by kernel_rfl))
 f224:=func288.trans (congrArg some (by kernel_rfl))
 f225:=func287.trans (congrArg some (by kernel_rfl))
 f227:=func223.trans (congrArg some (by kernel_rfl))
 f228:=func260.trans (congrArg some (by kernel_rfl))
 f231:=func221.trans (congrArg some (by kernel_rfl))
 f232:=func222.trans (congrArg some (by kernel_rfl))
 f233:=func224.trans (congrArg some (by kernel_rfl))
 f234:=func225.trans (congrArg some (by kernel_rfl))
 f235:=func226.trans (congrArg some (by kernel_rfl))
 f236:=func227.trans (congrArg some (by kernel_rfl))
 f260:=func252.trans (congrArg some (by kernel_rfl))
 f266:=func300.trans (congrArg some (by kernel_rfl))
 f271:=func262.trans (congrArg some (by kernel_rfl))
 t0:=underlying0
 a0:=isAgg0
 z0:=sizeOf0
 v0:=zeroValue0
 t3:=underlying3
 a3:=isAgg3
 z3:=sizeOf3
 v3:=zeroValue3
 t4:=underlying4
 a4:=isAgg4
 z4:=sizeOf4
 v4:=zeroValue4
 t5:=underlying5
 a5:=isAgg5
 z5:=sizeOf5
 v5:=zeroValue5
 t9:=underlying9
 a9:=isAgg9
 z9:=sizeOf9
 v9:=zeroValue9
 t21:=underlying21
 a21:=isAgg21
 z21:=sizeOf21
 v21:=zeroValue21
 t46:=underlying264
 a46:=isAgg264
 z46:=sizeOf264
 v46:=zeroValue264
 t105:=underlying362
 a105:=isAgg362
 z105:=sizeOf362
 v105:=zeroValue362
 t116:=underlying373
 a116:=isAgg373
 z116:=sizeOf373
 t117:=underlying374
 a117:=isAgg374
 z117:=sizeOf374
 v117:=zeroValue374
 t119:=underlying422
 a119:=isAgg422
 z119:=sizeOf422
 t124:=underlying377
 a124:=isAgg377
 z124:=sizeOf377
 v124:=zeroValue377
 t138:=underlying424
 a138:=isAgg424
 z138:=sizeOf424
 v138:=zeroValue424
 t139:=underlying425
 a139:=isAgg425
 z139:=sizeOf425
 v139:=zeroValue425
 g3:=by kernel_rfl
 g4:=by kernel_rfl}
def Tryz.laysCP_ren:Go.Shelf.Ren:=⟨fun|103=>126|210=>179|206=>231|n=>n,fun|9=>9|4=>4|24=>277|3=>3|n=>n,fun|n=>n⟩
theorem Tryz.laysCP:Go.Proofs.Lays.n103 prog Tryz.laysCP_ren:={
 mixed:=by kernel_rfl
 f103:=func126.trans (congrArg some (by kernel_rfl))
 f206:=func231.trans (congrArg some (by kernel_rfl))
 f210:=func179.trans (congrArg some (by kernel_rfl))
 t3:=underlying3
 a3:=isAgg3
 z3:=sizeOf3
 v3:=zeroValue3
 t4:=underlying4
 a4:=isAgg4
 z4:=sizeOf4
 v4:=zeroValue4
 t9:=underlying9
 a9:=isAgg9
 z9:=sizeOf9
 v9:=zeroValue9
 t24:=underlying277
 a24:=isAgg277
 z24:=sizeOf277
 v24:=zeroValue277}
def Tryz.laysCut_ren:Go.Shelf.Ren:=⟨fun|145=>178|220=>230|219=>259|217=>286|225=>287|224=>288|267=>289|266=>300|314=>301|n=>n,fun|9=>9|4=>4|59=>329|3=>3|5=>5|46=>264|146=>440|51=>388|n=>n,fun|1=>4|n=>n⟩
theorem Tryz.laysCut:Go.Proofs.Lays.n145 prog Tryz.laysCut_ren:={
 mixed:=by kernel_rfl
 f145:=func178.trans (congrArg some (by kernel_rfl))
 f217:=func286.trans (congrArg some (by kernel_rfl))
 f219:=func259.trans (congrArg some (by kernel_rfl))
 f220:=func230.trans (congrArg some (by kernel_rfl))
 f224:=func288.trans (congrArg some (by kernel_rfl))
 f225:=func287.trans (congrArg some (by kernel_rfl))
 f266:=func300.trans (congrArg some (by kernel_rfl))
 f267:=func289.trans (congrArg some (by kernel_rfl))
 f314:=func301.trans (congrArg some (by kernel_rfl))
 t3:=underlying3
 a3:=isAgg3
 z3:=sizeOf3
 v3:=zeroValue3
 t4:=underlying4
 a4:=isAgg4
 z4:=sizeOf4
 v4:=zeroValue4
 t5:=underlying5
 a5:=isAgg5
 z5:=sizeOf5
 v5:=zeroValue5
 t9:=underlying9
 a9:=isAgg9
 z9:=sizeOf9
 v9:=zeroValue9
 t46:=underlying264
 a46:=isAgg264
 z46:=sizeOf264
 v46:=zeroValue264
 t51:=underlying388
 a51:=isAgg388
 z51:=sizeOf388
 v51:=zeroValue388
 t59:=underlying329
 a59:=isAgg329
 z59:=sizeOf329
 v59:=zeroValue329
 t146:=underlying440
 a146:=isAgg440
 z146:=sizeOf440
 v146:=zeroValue440
 g1:=by kernel_rfl}
def Tryz.laysAt_ren:Go.Shelf.Ren:=⟨fun|172=>177|244=>228|245=>229|247=>263|279=>264|280=>265|281=>266|282=>267|287=>292|316=>293|171=>295|205=>294|321=>304|322=>305|243=>306|246=>308|283=>309|284=>310|285=>311|286=>312|129=>242|317=>313|318=>314|319=>315|320=>316|337=>317|338=>318|n=>n,fun|9=>9|3=>3|75=>326|76=>327|4=>4|5=>5|167=>405|37=>131|0=>0|85=>406|2=>2|168=>408|53=>251|175=>430|46=>264|210=>433|127=>400|145=>445|143=>443|21=>21|171=>448|173=>450|212=>453|51=>388|20=>20|213=>454|232=>455|233=>456|80=>85|n=>n,fun|15=>5|16=>6|17=>7|18=>8|19=>9|n=>n⟩
theorem Tryz.laysAt:Go.Proofs.Lays.n172 prog Tryz.laysAt_ren:={
 mixed:=by kernel_rfl
 f129:=func242.trans (congrArg some (by kernel_rfl))
 f171:=func295.trans (congrArg some (by kernel_rfl))
 f172:=func177.trans (congrArg some (by kernel_rfl))
 f205:=func294.trans (congrArg some (by kernel_rfl))
 f243:=func306.trans (congrArg some (by kernel_rfl))
 f244:=func228.trans (congrArg some (by kernel_rfl))
 f245:=func229.trans (congrArg some (by kernel_rfl))
 f246:=func308.trans (congrArg some (by kernel_rfl))
 f247:=func263.trans (congrArg some (by kernel_rfl))
 f279:=func264.trans (congrArg some (by kernel_rfl))
 f280:=func265.trans (congrArg some (by kernel_rfl))
 f281:=func266.trans (congrArg some (by kernel_rfl))
 f282:=func267.trans (congrArg some (by kernel_rfl))
 f283:=func309.trans (congrArg some (by kernel_rfl))
 f284:=func310.trans (congrArg some (by kernel_rfl))
 f285:=func311.trans (congrArg some (by kernel_rfl))
 f286:=func312.trans (congrArg some (by kernel_rfl))
 f287:=func292.trans (congrArg some (by kernel_rfl))
 f316:=func293.trans (congrArg some (by kernel_rfl))
 f317:=func313.trans (congrArg some (by kernel_rfl))
 f318:=func314.trans (congrArg some (by kernel_rfl))
 f319:=func315.trans (congrArg some (by kernel_rfl))
 f320:=func316.trans (congrArg some (by kernel_rfl))
 f321:=func304.trans (congrArg some (by kernel_rfl))
 f322:=func305.trans (congrArg some (by kernel_rfl))
 f337:=func317.trans (congrArg some (by kernel_rfl))
 f338:=func318.trans (congrArg some (by kernel_rfl))
 t0:=underlying0
 a0:=isAgg0
 z0:=sizeOf0
 v0:=zeroValue0
 t2:=underlying2
 a2:=isAgg2
 z2:=sizeOf2
 v2:=zeroValue2
 t3:=underlying3
 a3:=isAgg3
 z3:=sizeOf3
 v3:=zeroValue3
 t4:=underlying4
 a4:=isAgg4
 z4:=sizeOf4
 v4:=zeroValue4
 t5:=underlying5
 a5:=isAgg5
 z5:=sizeOf5
 v5:=zeroValue5
 t9:=underlying9
 a9:=isAgg9
 z9:=sizeOf9
 v9:=zeroValue9
 t20:=underlying20
 a20:=isAgg20
 z20:=sizeOf20
 v20:=zeroValue20
 t21:=underlying21
 a21:=isAgg21
 z21:=sizeOf21
 v21:=zeroValue21
 t37:=underlying131
 a37:=isAgg131
 z37:=sizeOf131
 v37:=zeroValue131
 t46:=underlying264
 a46:=isAgg264
 z46:=sizeOf264
 v46:=zeroValue264
 t51:=underlying388
 a51:=isAgg388
 z51:=sizeOf388
 v51:=zeroValue388
 t53:=underlying251
 a53:=isAgg251
 z53:=sizeOf251
 v53:=zeroValue251
 t75:=underlying326
 a75:=isAgg326
 z75:=sizeOf326
 v75:=zeroValue326
 t76:=underlying327
 a76:=isAgg327
 z76:=sizeOf327
 v76:=zeroValue327
 t85:=underlying406
 a85:=isAgg406
 z85:=sizeOf406
 v85:=zeroValue406
 t127:=underlying400
 a127:=isAgg400
 z127:=sizeOf400
 v127:=zeroValue400
 t143:=underlying443
 a143:=isAgg443
 z143:=sizeOf443
 v143:=zeroValue443
 t145:=underlying445
 a145:=isAgg445
 z145:=sizeOf445
 v145:=zeroValue445
 t167:=underlying405
 a167:=isAgg405
 z167:=sizeOf405
 v167:=zeroValue405
 t168:=underlying408
 a168:=isAgg408
 z168:=sizeOf408
 v168:=zeroValue408
 t171:=underlying448
 a171:=isAgg448
 z171:=sizeOf448
 v171:=zeroValue448
 t173:=underlying450
 a173:=isAgg450
 z173:=sizeOf450
 v173:=zeroValue450
 t175:=underlying430
 a175:=isAgg430
 z175:=sizeOf430
 v175:=zeroValue430
 t210:=underlying433
 a210:=isAgg433
 z210:=sizeOf433
 v210:=zeroValue433
 t212:=underlying453
 a212:=isAgg453
 z212:=sizeOf453
 v212:=zeroValue453
 t213:=underlying454
 a213:=isAgg454
 z213:=sizeOf454
 t232:=underlying455
 a232:=isAgg455
 z232:=sizeOf455
 v232:=zeroValue455
 t233:=underlying456
 a233:=isAgg456
 z233:=sizeOf456
 v233:=zeroValue456
 g15:=by kernel_rfl
 g16:=by kernel_rfl
 g17:=by kernel_rfl
 g18:=by kernel_rfl
 g19:=by kernel_rfl}
end
section
open Go.Shelf
def Tryz.sortT_ren:Go.Shelf.Ren:=⟨fun|6=>426|15=>186|14=>430|28=>241|29=>242|20=>432|21=>433|22=>434|23=>435|24=>436|25=>437|26=>438|27=>439|46=>440|47=>269|48=>270|49=>441|50=>442|57=>443|n=>n,fun|22=>496|24=>484|25=>535|3=>3|39=>264|0=>0|53=>388|55=>251|4=>4|46=>382|45=>381|50=>185|5=>5|9=>9|66=>411|70=>415|76=>435|77=>436|n=>n,fun|n=>n⟩
theorem Tryz.sortT:Go.Proofs.SlLaysF0.n6 prog Tryz.sortT_ren:={
 mixed:=by kernel_rfl
 f6:=⟨f426.name,by decide,func426.trans (congrArg some (by kernel_rfl))⟩
 f14:=⟨f430.name,by decide,func430.trans (congrArg some (by kernel_rfl))⟩
 f15:=func186.trans (congrArg some (by kernel_rfl))
 f20:=⟨f432.name,by decide,func432.trans (congrArg some (by kernel_rfl))⟩
 f21:=⟨f433.name,by decide,func433.trans (congrArg some (by kernel_rfl))⟩
 f22:=⟨f434.name,by decide,func434.trans (congrArg some (by kernel_rfl))⟩
 f23:=⟨f435.name,by decide,func435.trans (congrArg some (by kernel_rfl))⟩
 f24:=⟨f436.name,by decide,func436.trans (congrArg some (by kernel_rfl))⟩
 f25:=⟨f437.name,by decide,func437.trans (congrArg some (by kernel_rfl))⟩
 f26:=⟨f438.name,by decide,func438.trans (congrArg some (by kernel_rfl))⟩
 f27:=⟨f439.name,by decide,func439.trans (congrArg some (by kernel_rfl))⟩
 f28:=func241.trans (congrArg some (by kernel_rfl))
 f29:=func242.trans (congrArg some (by kernel_rfl))
 f46:=⟨f440.name,by decide,func440.trans (congrArg some (by kernel_rfl))⟩
 f47:=func269.trans (congrArg some (by kernel_rfl))
 f48:=func270.trans (congrArg some (by kernel_rfl))
 f49:=⟨f441.name,by decide,func441.trans (congrArg some (by kernel_rfl))⟩
 f50:=⟨f442.name,by decide,func442.trans (congrArg some (by kernel_rfl))⟩
 f57:=⟨f443.name,by decide,func443.trans (congrArg some (by kernel_rfl))⟩
 t0:=underlying0
 a0:=isAgg0
 z0:=sizeOf0
 v0:=zeroValue0
 t3:=underlying3
 a3:=isAgg3
 z3:=sizeOf3
 v3:=zeroValue3
 t4:=underlying4
 a4:=isAgg4
 z4:=sizeOf4
 v4:=zeroValue4
 t5:=underlying5
 a5:=isAgg5
 z5:=sizeOf5
 v5:=zeroValue5
 t9:=underlying9
 a9:=isAgg9
 z9:=sizeOf9
 v9:=zeroValue9
 t22:=underlying496
 a22:=isAgg496
 z22:=sizeOf496
 v22:=zeroValue496
 t25:=underlying535
 a25:=isAgg535
 z25:=sizeOf535
 v25:=zeroValue535
 t39:=underlying264
 a39:=isAgg264
 z39:=sizeOf264
 v39:=zeroValue264
 t45:=underlying381
 a45:=isAgg381
 z45:=sizeOf381
 v45:=zeroValue381
 t46:=underlying382
 a46:=isAgg382
 z46:=sizeOf382
 v46:=zeroValue382
 t50:=underlying185
 a50:=isAgg185
 z50:=sizeOf185
 v50:=zeroValue185
 t53:=underlying388
 a53:=isAgg388
 z53:=sizeOf388
 v53:=zeroValue388
 t55:=underlying251
 a55:=isAgg251
 z55:=sizeOf251
 v55:=zeroValue251
 t66:=underlying411
 a66:=isAgg411
 z66:=sizeOf411
 v66:=zeroValue411
 t70:=underlying415
 a70:=isAgg415
 z70:=sizeOf415
 v70:=zeroValue415
 t76:=underlying435
 a76:=isAgg435
 z76:=sizeOf435
 v76:=zeroValue435
 t77:=underlying436
 a77:=isAgg436
 z77:=sizeOf436
 v77:=zeroValue436}
end
section
variable{w w':aF}{R:aJ}
def Qg(l:bO)(I:List Nat):bO:=I.map fun j=>l.getD j (0,0)
theorem AY(l:bO)(I:List Nat):(Qg l I).length=I.length:=by unfold Qg;rw[iP]
theorem getD_at{α:Type}{l:List α}{j:Nat}{x d:α}(h:l[j]?=some x):l.getD j d=x:=by rw[Eb,h];rfl
theorem Qh(l:bO)(j:Nat):(l.getD j (0,0)).2=(l.map (·.2)).getD j 0:=by rw[Eb,Eb,kI];cases l[j]?<;>rfl
theorem abA(l:bO)(I:List Nat):xm (Qg l I)=I.map fun j=>(l.map (·.2)).getD j 0:=by unfold xm Qg;rw[List.map_map];exact List.map_congr_left fun j _=>Qh l j
theorem aee{l:bO}(h:lQ l){I:List Nat}(ha:I.Pairwise (·<·))(hI:∀i∈I,i<l.length)(hl:I.length<=32):lQ (Qg l I):=by
 have hm:∀i∈I,l.getD i (0,0)∈l:=fun i hi=>by rw[getD_at (cZ (hI i hi))];exact List.getElem_mem _
 refine⟨?_,fun p hp=>?_,by rw[AY];exact hl⟩
 ·unfold Qg;rw[List.pairwise_map];refine List.Pairwise.imp_of_mem (fun{a b}h1 h2 hab=>?_) ha;rw[getD_at (cZ (hI a h1)),getD_at (cZ (hI b h2))];exact List.pairwise_iff_getElem.1 h.yD a b (hI a h1) (hI b h2) hab
 ·unfold Qg at hp;obtain⟨i,hi,rfl⟩:=gW.1 hp;exact h.fZ _ (hm i hi)
theorem Tryz.intFi:bS prog 22 3 1 8:=bS.mk' underlying22 (z:=.int .i64 0) (by kernel_rfl) (by kernel_rfl) (by omega)
def MU(os:List Nat):dw:=os.map fun(k:Nat)=>.int .i64 (k:Int)
theorem ZR{os:List Nat}{i a:Nat}(h:os[i]?=some a):(MU os)[i]?=some ↑(a:Int):=by unfold MU;rw[kI,h];rfl
theorem qM{l:bq}{i:Nat}{x:Int}(h:l[i]?=some x):(iB l)[i]?=some ↑x:=by unfold iB;rw[kI,h];rfl
theorem ZT(l:bq)(i:Nat)(v:Int):iB (l.set i v)=(iB l).set i (.int .i64 v):=by unfold iB;rw[List.map_set]
theorem Tf(n:Nat):iB (List.replicate n 0)=List.replicate n (.int .i64 0):=by unfold iB;rw[List.map_replicate]
theorem afO{l:bO}(h:lQ l){i:Nat}(hi:i<l.length):1<=(l.map (·.2)).getD i 0:=by rw[<-Qh,getD_at (cZ hi)];exact(h.fZ _ (List.getElem_mem hi)).2.2.1
theorem ZU(l:bO)(cs gs:bq)(i:Nat){p:Int×Int}(hp:l[i]?=some p)(h:gs.getD i 0<cs.getD i 0):flat part (Qg l (oh cs gs (i+1)))=flat part (Qg l (oh cs gs i))++[.int .i64 p.1,.int .i64 p.2]:=by rw[AX,if_pos h];unfold Qg;rw[tJ,aO];congr 1;show flat part [l.getD i (0,0)]=_;rw[getD_at hp];rfl
theorem WZ(cs gs:bq)(i:Nat)(h:gs.getD i 0<cs.getD i 0):MU (oh cs gs (i+1))=MU (oh cs gs i)++[.int .i64 (i:Int)]:=by rw[AX,if_pos h];unfold MU;rw[tJ];rfl
theorem ZV(cs gs:bq)(i:Nat)(h:gs.getD i 0<cs.getD i 0):(oh cs gs (i+1)).length=(oh cs gs i).length+1:=by rw[AX,if_pos h,jf];rfl
theorem ZW(cs gs:bq)(i:Nat)(h:¬gs.getD i 0<cs.getD i 0):oh cs gs (i+1)=oh cs gs i:=by rw[AX,if_neg h]
theorem ZX{cs:bq}{I:List Nat}{X:bq}{s:bq×Int}{k i:Nat}{x:Int}(hi:I[k]?=some i)(hx:X[k]?=some x):
  ((I.zip X).take (k+1)).foldl (om cs) s=om cs (((I.zip X).take k).foldl (om cs) s) (i,x):=by
 have:(I.zip X)[k]?=some (i,x):=by rw[List.getElem?_zip_eq_some];exact⟨hi,hx⟩
 rw[tH,this,List.foldl_append];rfl
abbrev ZY(ap:aY)(n pc:Nat)(l:bO):SP:=slc 493 2 ap n pc (flat part l)
abbrev W9(ac:aY)(n cc:Nat)(cs:bq):SP:=slc 2 1 ac n cc (iB cs)
def afP(P:aJ)(n:Nat)(w:aF)(v:aL)(wr:aF):Prop:=∃i:Nat,v=↑(i:Int)/\i<=n/\Own wr P/\Calm w wr
def afQ(P:aJ)(g:Nat)(cs ws:bq)(a:Int)(F:bq×Int)(w:aF)(v0:aL)(wr:aF):Prop:=
 ∃(gs:bq)(rest:Int),v0=↑rest/\mE cs gs/\0<=rest/\rest<=a/\Tc cs ws (gs,rest)=F/\Own wr (aH g 2 (iB gs)::P)/\Calm w wr
def acS(P:aJ)(n:Nat)(l:bO)(cs gs:bq)(w:aF)(v12 v13 v55:aL)(wr:aF):Prop:=
 ∃(i k:Nat)(a12 XQ:aY)(c12 c13:Nat),v55=↑(i:Int)/\i<=n/\v12=.slice a12 k c12/\v13=.slice XQ k c13/\k=(oh cs gs i).length/\
  Own wr (slc 493 2 a12 k c12 (flat part (Qg l (oh cs gs i)))::slc 3 1 XQ k c13 (MU (oh cs gs i))::P)/\Calm w wr
def acT(P:aJ)(g:Nat)(cs:bq)(I:List Nat)(X:bq)(s:bq×Int)(w:aF)(v0 v89:aL)(wr:aF):Prop:=
 ∃k:Nat,v89=↑(k:Int)/\k<=I.length/\v0=.int .i64 (((I.zip X).take k).foldl (om cs) s).2/\Own wr (aH g 2 (iB (((I.zip X).take k).foldl (om cs) s).1)::P)/\Calm w wr
def UW(a:Int)(ws cs:bq)(n:Nat)(P:aJ)(w:aF)(e:Ending)(w':aF):Prop:=
 ∃(g:aY)(c:Nat),e=.returned (.tuple #[.slice g n c,.int .i64 (qL a ws cs).2,aC])/\Own w' (W9 g n c (qL a ws cs).1::P)/\Calm w w'
theorem UX{g n:Nat}{gs:bq}{P:aJ}(hn:gs.length=n)(hl:n<=32)(o:Own w (aH g 2 (iB gs)::P)):Own w (W9 (some ⟨g,0,none⟩) n n gs::P):=by
 refine Own.slc.2 (.inr ⟨g,[],rfl,by omega,by unfold maxLen;omega,?_,by simp,?_⟩)
 ·unfold iB;rw[iP,hn,Nat.mul_one]
 ·rw[List.append_nil];exact o
theorem Qi{a:Int}{l:bO}{cs:bq}{ap ac:aY}{n pc cc:Nat}(ha0:0<=a)(ha1:a<=1099511627776)(hok:lQ l)(hn:n=l.length)(hc:n=cs.length)(hcs:∀i,0<=cs.getD i 0/\cs.getD i 0<=2199023255552)
  (o:Own w (ZY ap n pc l::W9 ac n cc cs::R)):
  Calls prog 418 #[.int .i64 a,.slice ap n pc,.slice ac n cc] w (UW a (l.map (·.2)) cs n (ZY ap n pc l::W9 ac n cc cs::R) w):=by
 have hv:=zW (c:=pc) (ry ap n pc l hn) hok hn o;have hl:=hok.len;have hn2:n<=32:=by omega
 have hmk:=JL n (by omega);have hws:∀i,i<cs.length->1<=(l.map (·.2)).getD i 0:=fun i hi=>afO hok (by omega);obtain⟨ws,aef⟩:=aP (l.map (·.2));have hPW:=fun I=>abA l I;rw[aef]at hws⊢;simp only[aef]at hPW;have HWS:=az hws;have HPW:=az hPW;have HN:=az hn;have HC:=az hc;have OH:=az hok;have HCS:=az hcs;have hd0:=decide_eq_false (show¬(a<0)by omega);have hz:mE cs (List.replicate n 0):=by rw[hc];exact mE.zeros fun i=>(hcs i).1
 have HZ:=az hz;have HF:=az (show qL a ws cs=Tc cs ws (List.replicate n 0,a)from by rw[hc];rfl);obtain⟨PP,hPP⟩:=aP (ZY ap n pc l::W9 ac n cc cs::R);have HPP:=az hPP;clear hn hc hok hcs hws hPW aef hl hz hPP;go_enter func418,ntmps418;go_wp2_with fail;refine hv.mono ?_;rintro e1 w1⟨rfl,o1,k1⟩;clear hv;go_wp2;go_loopw[37] (fun v wr=>afP (ZY ap n pc l::W9 ac n cc cs::R) n w v wr) (fun v _=>n-(pM v).toNat);case atStart=>exact⟨0,rfl,Nat.zero_le _,o1,k1⟩
 case round=>
  clear o1 k1 o;obtain⟨i,rfl,hi,oR,kR⟩:=hrel;by_cases hlt:i<n
  ·obtain⟨c,hcc⟩:∃c,cs[i]?=some c:=⟨_,List.getElem?_eq_getElem (by have:=HC.out;omega)⟩;obtain⟨gc,rfl,W_,_,_⟩:=(oR.up 1).aG (by omega);have d0:=W_ i _ (qM hcc);have hb:=HCS.out i;rw[getD_at hcc]at hb;have f1:=decide_eq_false (show¬(c<0)by omega);have f2:=decide_eq_false (show¬(2199023255552<c)by omega);clear W_ hcc;go_wp2;go_roundw;case rel=>exact⟨i+1,by go_num,by omega,oR,kR⟩
   case measure=>simp[pM];omega
  ·have hin:i=n:=by omega
   subst hin;have oZ:=oR.alloc (.cells (List.replicate i (Value.int .i64 0)).toArray 2);have oZ2:Own (wr.alloc (.cells (List.replicate i (Value.int .i64 0)).toArray 2)) (aH wr.heap.size 2 (iB (List.replicate i 0))::ZY ap i pc l::W9 ac i cc cs::R):=by rw[Tf];exact oZ
   have kZ:Calm w (wr.alloc (.cells (List.replicate i (Value.int .i64 0)).toArray 2)):=⟨kR.os,kR.tape,kR.output⟩;go_wp2;obtain⟨g,hg⟩:=aP wr.heap.size;rw[hg]at oZ2⊢;clear hg oZ oR;go_loopw[0] (fun v wr=>afQ (ZY ap i pc l::W9 ac i cc cs::R) g cs ws a (qL a ws cs) w v wr) (fun v _=>(pM v).toNat);case atStart=>exact⟨List.replicate i 0,a,rfl,HZ.out,ha0,Int.le_refl _,HF.out.symm,oZ2,kZ⟩
   case round=>
    clear oZ2 kZ kR hmk;obtain⟨gs,rest,rfl,hfo,hr0,hr1,hfin,oQ,kQ⟩:=hrel;have Qj:=az hfo;have HFI:=az hfin;clear hfo hfin;by_cases hpos:0<rest
    ·have hpd:decide (0<rest)=true:=decide_eq_true hpos;have hT:acS (aH g 2 (iB gs)::ZY ap i pc l::W9 ac i cc cs::R) i l cs gs w (.slice none 0 0) (.slice none 0 0) (.int .i64 0) wr:=⟨0,0,none,none,0,0,rfl,Nat.zero_le _,rfl,rfl,rfl,Own.bH (Own.bH oQ),kQ⟩;clear oQ kQ;go_wp2;go_loopw[12,13,55] (fun v12 v13 v55 wr=>acS (aH g 2 (iB gs)::ZY ap i pc l::W9 ac i cc cs::R) i l cs gs w v12 v13 v55 wr) (fun _ _ v _=>i-(pM v).toNat);case atStart=>exact hT
     case round=>
      clear hT;obtain⟨j,k,a12,XQ,c12,c13,rfl,hj,rfl,rfl,hk,oS,kS⟩:=hrel;have hkj:=abv cs gs j;have HK:=az hk;by_cases hlt2:j<i
      ·obtain⟨p,hp⟩:∃p,l[j]?=some p:=⟨_,List.getElem?_eq_getElem (by have:=HN.out;omega)⟩;obtain⟨c,hcc⟩:∃c,cs[j]?=some c:=⟨_,List.getElem?_eq_getElem (by have:=HC.out;omega)⟩;obtain⟨y,hy⟩:∃y,gs[j]?=some y:=⟨_,List.getElem?_eq_getElem (by have:=Qj.out.len;have:=HC.out;omega)⟩;obtain⟨gp,rfl,q0,q1⟩:=mY (oS.up 3) hp (by omega);have oP:=oS.alloc (.cells #[.int .i64 p.1,.int .i64 p.2] 493);obtain⟨gc,rfl,W_,_,_⟩:=(oP.up 5).aG (by omega);have d0:=W_ j _ (qM hcc);have e0:=(oP.up 3).cell j (qM hy);have LH:k<=32:=by omega
       have hgc:(gs.getD j 0<cs.getD j 0)=(y<c):=by rw[getD_at hy,getD_at hcc]
       have HP:=az hp;by_cases hyc:y<c
       ·have hop:=hgc.mpr hyc;have HF1:=az (ZU l cs gs j hp hop);have HF2:=az (WZ cs gs j hop);have HF3:=az (ZV cs gs j hop);have hyd:decide (y<c)=true:=decide_eq_true hyc;clear hop hgc W_ hcc hy hk hp;obtain⟨p0,p1⟩:=p;dsimp only at q0 q1 oP HF1;have r0:=oP.cell (T:=493) (vs:=[.int .i64 p0,.int .i64 p1]) 0;have r1:=oP.cell (T:=493) (vs:=[.int .i64 p0,.int .i64 p1]) 1;have rl:=oP.aS (T:=493) (vs:=[.int .i64 p0,.int .i64 p1]);have oPn:∀q,Own (((wr.alloc (.cells #[.int .i64 p0,.int .i64 p1] 493)).drewN q).alloc (.cells #[.int .i64 p0,.int .i64 p1] 493)) (aH (wr.heap.size+1) 493 [.int .i64 p0,.int .i64 p1]::aH wr.heap.size 493 [.int .i64 p0,.int .i64 p1]::slc 493 2 a12 k c12 (flat part (Qg l (oh cs gs j)))::slc 3 1 XQ k c13 (MU (oh cs gs j))::aH g 2 (iB gs)::ZY (some ⟨gp,0,none⟩) i pc l::W9 (some ⟨gc,0,none⟩) i cc cs::R):=fun q=>by have:=(oP.drewN q).alloc (.cells #[.int .i64 p0,.int .i64 p1] 493);rw[show((wr.alloc (.cells #[.int .i64 p0,.int .i64 p1] 493)).drewN q).heap.size=wr.heap.size+1 from World.size_alloc _ _]at this;exact this
        go_wp2;go_quiet(fail);go_wp2_with(at_builtin;refine aU rfl _ _ rfl Tryz.partT rfl ((oPn _).up 2) ⟨wr.heap.size+1,0,none⟩ 1 1 [.int .i64 p0,.int .i64 p1] rfl rfl (Own.news (T:=493) (vs:=[.int .i64 p0,.int .i64 p1]) (oPn _)) (by intro u hu;simp at hu;rcases hu with rfl|rfl<;>rfl) (by unfold maxLen;omega) (by omega) ?k2);case k2=>
        intro a5 c5 w5 o5 k5;have oP5:=o5.alloc (.cells #[.int .i64 (j:Int)] 3);go_wp2_with(at_builtin;refine aU rfl _ _ rfl Tryz.intFi rfl (oP5.up 4) ⟨w5.heap.size,0,none⟩ 1 1 [.int .i64 (j:Int)] rfl rfl (Own.news (T:=3) (vs:=[.int .i64 (j:Int)]) oP5) (by intro u hu;simp at hu;rcases hu with rfl;rfl) (by unfold maxLen;omega) (by omega) ?k3);case k3=>
        intro a7 c7 w7 o7 k7;go_wp2;go_roundw;case rel=>exact⟨j+1,k+1,a5,a7,c5,c7,by go_num,by omega,rfl,rfl,by rw[HF3.out,<-HK.out],by rw[HF1.out,HF2.out];exact(o7.re [1,3,4] 3).re [1,0],kS.trans (Calm.trans ⟨k5.al.os,k5.al.tape,k5.al.output⟩ k7.al)⟩
        case measure=>simp[pM];omega
       ·have hop:=fun h=>hyc (hgc.mp h);have HF1:=az (ZW cs gs j hop);have hyd:decide (y<c)=false:=decide_eq_false hyc;clear hop hgc W_ hcc hy hk hp;obtain⟨p0,p1⟩:=p;dsimp only at q0 q1 oP;go_wp2;go_quiet(fail);go_wp2;go_roundw;case rel=>exact⟨j+1,k,a12,XQ,c12,c13,by go_num,by omega,rfl,rfl,by rw[HF1.out,<-HK.out],by rw[HF1.out];exact(oP.drewN _).drop,kS.trans ⟨rfl,rfl,rfl⟩⟩
        case measure=>simp[pM];omega
      ·have hji:i=j:=by omega
       subst hji;have HCn:=az HC.out;have afR:∀q∈oh cs gs i,q<i:=fun q hq=>(xB hq).1;have HI:=az (show oh cs gs cs.length=oh cs gs i by rw[<-HC.out]);have HIL:=az afR;have HIA:=az (abw cs gs i);obtain⟨I,hIe⟩:=aP (oh cs gs i);rw[hIe]at oS hk hkj HI HIL HIA HK;have HIe:=az hIe;clear hIe afR;by_cases hk0:k=0
       ·have hI0:I=[]:=List.eq_nil_of_length_eq_zero (by omega);have HEN:=az (Qe (ws:=ws) (s:=(gs,rest)) (.inr (by show oh cs gs cs.length=[];rw[HI.out,hI0])));have HGL:=az Qj.out.len;subst hk0;clear hk hkj hI0;go_wp2
        go_ret3
        have hF2:qL a ws cs=(gs,rest):=HFI.out.symm.trans HEN.out;refine⟨some ⟨g,0,none⟩,i,?_,?_,kS⟩
        ·rw[hF2];rfl
        ·rw[hF2];exact UX (by rw[HGL.out,HC.out]) hn2 oS.drop.drop
       ·have hkk:((k:Int)==0)=false:=by simpa using hk0
        have afS:lQ (Qg l I):=aee OH.out HIA.out (fun q hq=>by have:=HIL.out q hq;have:=HN.out;omega) (by omega);have hsp:=zX (w:=wr) (c:=c12) rest (by unfold ab;omega) (ry a12 k c12 (Qg l I) (hk.trans (AY l I).symm)) afS (hk.trans (AY l I).symm) oS;have acU:(Qg l I).length=k:=by rw[AY];exact hk.symm
        have hsI:I≠[]:=fun e=>hk0 (by rw[hk,e];rfl);have hp0:Qg l I≠[]:=fun e=>hsI (List.eq_nil_of_length_eq_zero (by rw[<-AY l I,e];rfl));have hX:bV rest (xm (Qg l I))=bV rest (I.map fun j=>ws.getD j 0):=by rw[HPW.out]
        have hXl:(bV rest (I.map fun j=>ws.getD j 0)).length=k:=by rw[tK,List.length_map];exact hk.symm
        have Cu:=Td (s:=(gs,rest)) Qj.out HWS.out hpos (by show oh cs gs cs.length≠[];rw[HI.out];exact hsI);have Xa:=EW (s:=(gs,rest)) Qj.out HWS.out hpos (by show oh cs gs cs.length≠[];rw[HI.out];exact hsI);have ZZ:=fun k=>UR (s:=(gs,rest)) Qj.out HWS.out hpos k;have hXn:∀x∈bV rest (I.map fun j=>ws.getD j 0),0<=x:=kM (by omega) fun x hx=>by obtain⟨j,hj,rfl⟩:=List.mem_map.1 hx;exact HWS.out j (by have:=HIL.out j hj;have:=HC.out;omega)
        have hXs:∀x∈bV rest (I.map fun j=>ws.getD j 0),x<=rest:=fun x hx=>by have h1:=rz hXn hx;rw[tL rest (by simpa using hsI)]at h1;exact h1
        unfold G5 at Cu Xa;dsimp only at Cu Xa ZZ;rw[HI.out]at Cu Xa ZZ;unfold Ri at hsp;rw[hX,acU,if_neg hp0]at hsp;obtain⟨X,hXe⟩:=aP (bV rest (I.map fun j=>ws.getD j 0));rw[hXe]at Cu Xa ZZ hXl hXn hXs hsp;have HRD:=az Cu;have HRO:=az Xa;have HZO:=az ZZ;have HXL:=az hXl;have HXN:=az hXn;have HXS:=az hXs;clear hX hXe Cu Xa ZZ hXl hXn hXs hp0 hsI acU afS;have hkI:=az hk;have LH:k<=32:=by omega
        clear hk hkj;go_wp2_with fail;refine hsp.mono ?_;rintro e3 w3⟨g2,cg,rfl,o3,k3⟩;clear hsp oS;have hT:acT (slc 2 1 g2 k cg (iB X)::slc 3 1 XQ k c13 (MU I)::ZY ap i pc l::W9 ac i cc cs::R) g cs I X (gs,rest) w (.int .i64 rest) (.int .i64 0) w3:=⟨0,rfl,Nat.zero_le _,rfl,(o3.re [1] 1).re [2,0,1],kS.trans k3⟩;clear o3 k3 kS;go_wp2;go_loopw[0,89] (fun v0 v89 wr=>acT (slc 2 1 g2 k cg (iB X)::slc 3 1 XQ k c13 (MU I)::ZY ap i pc l::W9 ac i cc cs::R) g cs I X (gs,rest) w v0 v89 wr) (fun _ v _=>k-(pM v).toNat);case atStart=>exact hT
        case round=>
         clear hT;obtain⟨q,rfl,hq,rfl,oT,kT⟩:=hrel;by_cases hlt3:q<k
         ·obtain⟨j,hj⟩:∃j,I[q]?=some j:=⟨_,List.getElem?_eq_getElem (by have:=hkI.out;omega)⟩;obtain⟨x,hx⟩:∃x,X[q]?=some x:=⟨_,List.getElem?_eq_getElem (by have:=HXL.out;omega)⟩;have hji:=HIL.out j (List.mem_of_getElem? hj);have hx0:=HXN.out x (List.mem_of_getElem? hx);have hx1:=HXS.out x (List.mem_of_getElem? hx);have hzq:=HZO.out q;have hst:=ZX (cs:=cs) (s:=(gs,rest)) hj hx;obtain⟨S,hS⟩:=aP (((I.zip X).take q).foldl (om cs) (gs,rest));rw[hS]at hzq hst oT⊢;clear hS;obtain⟨G,t⟩:=S;dsimp only at hzq oT⊢;obtain⟨z1,z2,z3,z4⟩:=hzq;have hGl:=z1.len;have hGr:=z1.fZ j;obtain⟨y,hy⟩:∃y,G[j]?=some y:=⟨_,List.getElem?_eq_getElem (by have:=HC.out;omega)⟩;obtain⟨c,hcc⟩:∃c,cs[j]?=some c:=⟨_,List.getElem?_eq_getElem (by have:=HC.out;omega)⟩;have hf1:om cs (G,t) (j,x)=(G.set j (y+min x (c-y)),t-min x (c-y)):=by unfold om;dsimp only;rw[getD_at hy,getD_at hcc]
          rw[hf1]at hst;rw[getD_at hy,getD_at hcc]at hGr;have hcb:=HCS.out j;rw[getD_at hcc]at hcb;have wa:=IntWalk.i64_in (c-y) (by omega);have hm1:min x (c-y)<=x:=Int.min_le_left _ _;have hm2:min x (c-y)<=c-y:=Int.min_le_right _ _;have Ny:0<=min x (c-y):=by rw[Int.le_min];omega
          obtain⟨v,hv⟩:=aP (min x (c-y));rw[hv]at hst hm1 hm2 Ny;have hv2:(if c-y<x then c-y else x)=v:=by rw[<-hv];split<;>omega
          have wb:=IntWalk.i64_in (y+v) (by omega);have wc:=IntWalk.i64_in (t-v) (by omega);obtain⟨gx,rfl,hcx,_,_⟩:=(oT.up 1).aG (by omega);have d0:=hcx q _ (qM hx);obtain⟨gi,rfl,hci,_,_⟩:=(oT.up 2).aG (by omega);have d1:=hci q _ (ZR hj);obtain⟨gc,rfl,Zh,_,_⟩:=(oT.up 4).aG (by omega);have d2:=Zh j _ (qM hcc);have d3:=oT.cell j (qM hy);have df:=oT.frozen;have dl:=oT.aS;have oU:=oT.setCell j (.int .i64 (y+v));rw[<-ZT]at oU;have HST:=az hst;clear hst hcx hci Zh hx hj hy hcc hGr z1 z2 hcb hGl;clear hm1 hm2 Ny hx0 hx1 z3 z4 hf1;go_wp2;go_quiet(fail);go_wp2;go_roundw;case rel=>exact⟨q+1,by go_num,by have:=hkI.out;omega,by rw[HST.out],by rw[HST.out];exact oU.drewN _,kT.trans ⟨rfl,rfl,rfl⟩⟩
          case measure=>simp[pM];omega
         ·have hqk:q=I.length:=by have:=hkI.out;omega
          have hro:=HRO.out;have hrd:=HRD.out;rw[List.take_of_length_le (by rw[List.length_zip];omega)]at oT⊢;have hfi:=HFI.out;rw[hrd]at hfi;obtain⟨S,hS⟩:=aP ((I.zip X).foldl (om cs) (gs,rest));rw[hS]at hro hfi oT⊢;obtain⟨G,t⟩:=S;dsimp only at hro hfi oT⊢;obtain⟨z1,z2,z3,z4⟩:=hro;clear hrd hS;have ahn:=az hfi;have HZ1:=az z1;clear hfi z1 z2;go_wp2;go_roundw;case rel=>exact⟨G,t,rfl,HZ1.out,z4,by omega,ahn.out,(oT.re [1,2] 2),kT⟩
          case measure=>simp[pM];omega
    ·have hr:rest=0:=by omega
     have HEN:=az (Qe (cs:=cs) (ws:=ws) (s:=(gs,rest)) (.inl (by show rest<=0;omega)));have HGL:=az Qj.out.len;have hpd:decide (0<rest)=false:=decide_eq_false hpos;clear hr;go_wp2
     go_ret3
     have hF2:qL a ws cs=(gs,rest):=HFI.out.symm.trans HEN.out;refine⟨some ⟨g,0,none⟩,i,?_,?_,kQ⟩
     ·rw[hF2];rfl
     ·rw[hF2];exact UX (by rw[HGL.out,HC.out]) hn2 oQ
end
end Go.Proofs.YtfejhikpfhgbeaaGreatDoor
