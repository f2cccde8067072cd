/- Facts on the program's tables, by the kernel. -/
import Derived.Test.YtcandjdomeompaaDoorRows
import Derived.Test.YtcandjdomeompaaDoorL
namespace Go.Proofs.YtcandjdomeompaaDoor
open Go.SX
theorem Tryd.mixed : Tryd.prog.follows .mixedOrders = true := by kernel_rfl
theorem Tryd.ag1 : isAggB Tryd.prog 1 = some false := by kernel_rfl
theorem Tryd.sz1 : (Tryd.prog.info? 1).map (·.size) = some 1 := by kernel_rfl
theorem Tryd.is1 : (Tryd.prog.info? 1).isSome = true := by kernel_rfl
theorem Tryd.us1 : (Tryd.prog.underlying 1).isSome = true := by kernel_rfl
theorem Tryd.ag2 : isAggB Tryd.prog 2 = some false := by kernel_rfl
theorem Tryd.sz2 : (Tryd.prog.info? 2).map (·.size) = some 1 := by kernel_rfl
theorem Tryd.is2 : (Tryd.prog.info? 2).isSome = true := by kernel_rfl
theorem Tryd.us2 : (Tryd.prog.underlying 2).isSome = true := by kernel_rfl
theorem Tryd.ag3 : isAggB Tryd.prog 3 = some false := by kernel_rfl
theorem Tryd.sz3 : (Tryd.prog.info? 3).map (·.size) = some 1 := by kernel_rfl
theorem Tryd.is3 : (Tryd.prog.info? 3).isSome = true := by kernel_rfl
theorem Tryd.us3 : (Tryd.prog.underlying 3).isSome = true := by kernel_rfl
theorem Tryd.ag4 : isAggB Tryd.prog 4 = some false := by kernel_rfl
theorem Tryd.sz4 : (Tryd.prog.info? 4).map (·.size) = some 1 := by kernel_rfl
theorem Tryd.is4 : (Tryd.prog.info? 4).isSome = true := by kernel_rfl
theorem Tryd.us4 : (Tryd.prog.underlying 4).isSome = true := by kernel_rfl
theorem Tryd.ag5 : isAggB Tryd.prog 5 = some false := by kernel_rfl
theorem Tryd.sz5 : (Tryd.prog.info? 5).map (·.size) = some 1 := by kernel_rfl
theorem Tryd.is5 : (Tryd.prog.info? 5).isSome = true := by kernel_rfl
theorem Tryd.us5 : (Tryd.prog.underlying 5).isSome = true := by kernel_rfl
theorem Tryd.ag6 : isAggB Tryd.prog 6 = some false := by kernel_rfl
theorem Tryd.sz6 : (Tryd.prog.info? 6).map (·.size) = some 1 := by kernel_rfl
theorem Tryd.is6 : (Tryd.prog.info? 6).isSome = true := by kernel_rfl
theorem Tryd.us6 : (Tryd.prog.underlying 6).isSome = true := by kernel_rfl
theorem Tryd.ag7 : isAggB Tryd.prog 7 = some true := by kernel_rfl
theorem Tryd.sz7 : (Tryd.prog.info? 7).map (·.size) = some 4 := by kernel_rfl
theorem Tryd.is7 : (Tryd.prog.info? 7).isSome = true := by kernel_rfl
theorem Tryd.us7 : (Tryd.prog.underlying 7).isSome = true := by kernel_rfl
theorem Tryd.off7_0 : fOff Tryd.prog 7 0 = some 0 := by kernel_rfl
theorem Tryd.off7_1 : fOff Tryd.prog 7 1 = some 1 := by kernel_rfl
theorem Tryd.off7_2 : fOff Tryd.prog 7 2 = some 2 := by kernel_rfl
theorem Tryd.off7_3 : fOff Tryd.prog 7 3 = some 3 := by kernel_rfl
theorem Tryd.ag8 : isAggB Tryd.prog 8 = some true := by kernel_rfl
theorem Tryd.sz8 : (Tryd.prog.info? 8).map (·.size) = some 4 := by kernel_rfl
theorem Tryd.is8 : (Tryd.prog.info? 8).isSome = true := by kernel_rfl
theorem Tryd.us8 : (Tryd.prog.underlying 8).isSome = true := by kernel_rfl
theorem Tryd.off8_0 : fOff Tryd.prog 8 0 = some 0 := by kernel_rfl
theorem Tryd.off8_1 : fOff Tryd.prog 8 1 = some 1 := by kernel_rfl
theorem Tryd.off8_2 : fOff Tryd.prog 8 2 = some 2 := by kernel_rfl
theorem Tryd.off8_3 : fOff Tryd.prog 8 3 = some 3 := by kernel_rfl
theorem Tryd.ag9 : isAggB Tryd.prog 9 = some false := by kernel_rfl
theorem Tryd.sz9 : (Tryd.prog.info? 9).map (·.size) = some 1 := by kernel_rfl
theorem Tryd.is9 : (Tryd.prog.info? 9).isSome = true := by kernel_rfl
theorem Tryd.us9 : (Tryd.prog.underlying 9).isSome = true := by kernel_rfl
theorem Tryd.ag10 : isAggB Tryd.prog 10 = some false := by kernel_rfl
theorem Tryd.sz10 : (Tryd.prog.info? 10).map (·.size) = some 1 := by kernel_rfl
theorem Tryd.is10 : (Tryd.prog.info? 10).isSome = true := by kernel_rfl
theorem Tryd.us10 : (Tryd.prog.underlying 10).isSome = true := by kernel_rfl
theorem Tryd.ag11 : isAggB Tryd.prog 11 = some false := by kernel_rfl
theorem Tryd.sz11 : (Tryd.prog.info? 11).map (·.size) = some 1 := by kernel_rfl
theorem Tryd.is11 : (Tryd.prog.info? 11).isSome = true := by kernel_rfl
theorem Tryd.us11 : (Tryd.prog.underlying 11).isSome = true := by kernel_rfl
theorem Tryd.ag12 : isAggB Tryd.prog 12 = some false := by kernel_rfl
theorem Tryd.sz12 : (Tryd.prog.info? 12).map (·.size) = some 1 := by kernel_rfl
theorem Tryd.is12 : (Tryd.prog.info? 12).isSome = true := by kernel_rfl
theorem Tryd.us12 : (Tryd.prog.underlying 12).isSome = true := by kernel_rfl
theorem Tryd.ag13 : isAggB Tryd.prog 13 = some true := by kernel_rfl
theorem Tryd.sz13 : (Tryd.prog.info? 13).map (·.size) = some 2 := by kernel_rfl
theorem Tryd.is13 : (Tryd.prog.info? 13).isSome = true := by kernel_rfl
theorem Tryd.us13 : (Tryd.prog.underlying 13).isSome = true := by kernel_rfl
theorem Tryd.off13_0 : fOff Tryd.prog 13 0 = some 0 := by kernel_rfl
theorem Tryd.off13_1 : fOff Tryd.prog 13 1 = some 1 := by kernel_rfl
theorem Tryd.ag14 : isAggB Tryd.prog 14 = some true := by kernel_rfl
theorem Tryd.sz14 : (Tryd.prog.info? 14).map (·.size) = some 2 := by kernel_rfl
theorem Tryd.is14 : (Tryd.prog.info? 14).isSome = true := by kernel_rfl
theorem Tryd.us14 : (Tryd.prog.underlying 14).isSome = true := by kernel_rfl
theorem Tryd.off14_0 : fOff Tryd.prog 14 0 = some 0 := by kernel_rfl
theorem Tryd.off14_1 : fOff Tryd.prog 14 1 = some 1 := by kernel_rfl
theorem Tryd.ag15 : isAggB Tryd.prog 15 = some false := by kernel_rfl
theorem Tryd.sz15 : (Tryd.prog.info? 15).map (·.size) = some 1 := by kernel_rfl
theorem Tryd.is15 : (Tryd.prog.info? 15).isSome = true := by kernel_rfl
theorem Tryd.us15 : (Tryd.prog.underlying 15).isSome = true := by kernel_rfl
theorem Tryd.ag16 : isAggB Tryd.prog 16 = some false := by kernel_rfl
theorem Tryd.sz16 : (Tryd.prog.info? 16).map (·.size) = some 1 := by kernel_rfl
theorem Tryd.is16 : (Tryd.prog.info? 16).isSome = true := by kernel_rfl
theorem Tryd.us16 : (Tryd.prog.underlying 16).isSome = true := by kernel_rfl
theorem Tryd.ag17 : isAggB Tryd.prog 17 = some false := by kernel_rfl
theorem Tryd.sz17 : (Tryd.prog.info? 17).map (·.size) = some 1 := by kernel_rfl
theorem Tryd.is17 : (Tryd.prog.info? 17).isSome = true := by kernel_rfl
theorem Tryd.us17 : (Tryd.prog.underlying 17).isSome = true := by kernel_rfl
theorem Tryd.ag18 : isAggB Tryd.prog 18 = some true := by kernel_rfl
theorem Tryd.sz18 : (Tryd.prog.info? 18).map (·.size) = some 1 := by kernel_rfl
theorem Tryd.is18 : (Tryd.prog.info? 18).isSome = true := by kernel_rfl
theorem Tryd.us18 : (Tryd.prog.underlying 18).isSome = true := by kernel_rfl
theorem Tryd.off18_0 : fOff Tryd.prog 18 0 = some 0 := by kernel_rfl
theorem Tryd.ag19 : isAggB Tryd.prog 19 = some true := by kernel_rfl
theorem Tryd.sz19 : (Tryd.prog.info? 19).map (·.size) = some 1 := by kernel_rfl
theorem Tryd.is19 : (Tryd.prog.info? 19).isSome = true := by kernel_rfl
theorem Tryd.us19 : (Tryd.prog.underlying 19).isSome = true := by kernel_rfl
theorem Tryd.off19_0 : fOff Tryd.prog 19 0 = some 0 := by kernel_rfl
theorem Tryd.ag20 : isAggB Tryd.prog 20 = some false := by kernel_rfl
theorem Tryd.sz20 : (Tryd.prog.info? 20).map (·.size) = some 1 := by kernel_rfl
theorem Tryd.is20 : (Tryd.prog.info? 20).isSome = true := by kernel_rfl
theorem Tryd.us20 : (Tryd.prog.underlying 20).isSome = true := by kernel_rfl
theorem Tryd.ag21 : isAggB Tryd.prog 21 = some false := by kernel_rfl
theorem Tryd.sz21 : (Tryd.prog.info? 21).map (·.size) = some 1 := by kernel_rfl
theorem Tryd.is21 : (Tryd.prog.info? 21).isSome = true := by kernel_rfl
theorem Tryd.us21 : (Tryd.prog.underlying 21).isSome = true := by kernel_rfl
theorem Tryd.ag22 : isAggB Tryd.prog 22 = some false := by kernel_rfl
theorem Tryd.sz22 : (Tryd.prog.info? 22).map (·.size) = some 1 := by kernel_rfl
theorem Tryd.is22 : (Tryd.prog.info? 22).isSome = true := by kernel_rfl
theorem Tryd.us22 : (Tryd.prog.underlying 22).isSome = true := by kernel_rfl
theorem Tryd.ag23 : isAggB Tryd.prog 23 = some false := by kernel_rfl
theorem Tryd.sz23 : (Tryd.prog.info? 23).map (·.size) = some 1 := by kernel_rfl
theorem Tryd.is23 : (Tryd.prog.info? 23).isSome = true := by kernel_rfl
theorem Tryd.us23 : (Tryd.prog.underlying 23).isSome = true := by kernel_rfl
theorem Tryd.ag24 : isAggB Tryd.prog 24 = some false := by kernel_rfl
theorem Tryd.sz24 : (Tryd.prog.info? 24).map (·.size) = some 1 := by kernel_rfl
theorem Tryd.is24 : (Tryd.prog.info? 24).isSome = true := by kernel_rfl
theorem Tryd.us24 : (Tryd.prog.underlying 24).isSome = true := by kernel_rfl
theorem Tryd.ag25 : isAggB Tryd.prog 25 = some false := by kernel_rfl
theorem Tryd.sz25 : (Tryd.prog.info? 25).map (·.size) = some 1 := by kernel_rfl
theorem Tryd.is25 : (Tryd.prog.info? 25).isSome = true := by kernel_rfl
theorem Tryd.us25 : (Tryd.prog.underlying 25).isSome = true := by kernel_rfl
theorem Tryd.ag26 : isAggB Tryd.prog 26 = some false := by kernel_rfl
theorem Tryd.sz26 : (Tryd.prog.info? 26).map (·.size) = some 1 := by kernel_rfl
theorem Tryd.is26 : (Tryd.prog.info? 26).isSome = true := by kernel_rfl
theorem Tryd.us26 : (Tryd.prog.underlying 26).isSome = true := by kernel_rfl
theorem Tryd.ag27 : isAggB Tryd.prog 27 = some false := by kernel_rfl
theorem Tryd.sz27 : (Tryd.prog.info? 27).map (·.size) = some 1 := by kernel_rfl
theorem Tryd.is27 : (Tryd.prog.info? 27).isSome = true := by kernel_rfl
theorem Tryd.us27 : (Tryd.prog.underlying 27).isSome = true := by kernel_rfl
theorem Tryd.ag28 : isAggB Tryd.prog 28 = some false := by kernel_rfl
theorem Tryd.sz28 : (Tryd.prog.info? 28).map (·.size) = some 1 := by kernel_rfl
theorem Tryd.is28 : (Tryd.prog.info? 28).isSome = true := by kernel_rfl
theorem Tryd.us28 : (Tryd.prog.underlying 28).isSome = true := by kernel_rfl
theorem Tryd.ag30 : isAggB Tryd.prog 30 = some false := by kernel_rfl
theorem Tryd.sz30 : (Tryd.prog.info? 30).map (·.size) = some 1 := by kernel_rfl
theorem Tryd.is30 : (Tryd.prog.info? 30).isSome = true := by kernel_rfl
theorem Tryd.us30 : (Tryd.prog.underlying 30).isSome = true := by kernel_rfl
theorem Tryd.ag31 : isAggB Tryd.prog 31 = some false := by kernel_rfl
theorem Tryd.sz31 : (Tryd.prog.info? 31).map (·.size) = some 1 := by kernel_rfl
theorem Tryd.is31 : (Tryd.prog.info? 31).isSome = true := by kernel_rfl
theorem Tryd.us31 : (Tryd.prog.underlying 31).isSome = true := by kernel_rfl
theorem Tryd.ag32 : isAggB Tryd.prog 32 = some false := by kernel_rfl
theorem Tryd.sz32 : (Tryd.prog.info? 32).map (·.size) = some 1 := by kernel_rfl
theorem Tryd.is32 : (Tryd.prog.info? 32).isSome = true := by kernel_rfl
theorem Tryd.us32 : (Tryd.prog.underlying 32).isSome = true := by kernel_rfl
theorem Tryd.ag33 : isAggB Tryd.prog 33 = some false := by kernel_rfl
theorem Tryd.sz33 : (Tryd.prog.info? 33).map (·.size) = some 1 := by kernel_rfl
theorem Tryd.is33 : (Tryd.prog.info? 33).isSome = true := by kernel_rfl
theorem Tryd.us33 : (Tryd.prog.underlying 33).isSome = true := by kernel_rfl
theorem Tryd.ag34 : isAggB Tryd.prog 34 = some false := by kernel_rfl
theorem Tryd.sz34 : (Tryd.prog.info? 34).map (·.size) = some 1 := by kernel_rfl
theorem Tryd.is34 : (Tryd.prog.info? 34).isSome = true := by kernel_rfl
theorem Tryd.us34 : (Tryd.prog.underlying 34).isSome = true := by kernel_rfl
theorem Tryd.ag35 : isAggB Tryd.prog 35 = some true := by kernel_rfl
theorem Tryd.sz35 : (Tryd.prog.info? 35).map (·.size) = some 4 := by kernel_rfl
theorem Tryd.is35 : (Tryd.prog.info? 35).isSome = true := by kernel_rfl
theorem Tryd.us35 : (Tryd.prog.underlying 35).isSome = true := by kernel_rfl
theorem Tryd.ag36 : isAggB Tryd.prog 36 = some true := by kernel_rfl
theorem Tryd.sz36 : (Tryd.prog.info? 36).map (·.size) = some 4 := by kernel_rfl
theorem Tryd.is36 : (Tryd.prog.info? 36).isSome = true := by kernel_rfl
theorem Tryd.us36 : (Tryd.prog.underlying 36).isSome = true := by kernel_rfl
theorem Tryd.ag37 : isAggB Tryd.prog 37 = some true := by kernel_rfl
theorem Tryd.sz37 : (Tryd.prog.info? 37).map (·.size) = some 8 := by kernel_rfl
theorem Tryd.is37 : (Tryd.prog.info? 37).isSome = true := by kernel_rfl
theorem Tryd.us37 : (Tryd.prog.underlying 37).isSome = true := by kernel_rfl
theorem Tryd.off37_0 : fOff Tryd.prog 37 0 = some 0 := by kernel_rfl
theorem Tryd.off37_1 : fOff Tryd.prog 37 1 = some 1 := by kernel_rfl
theorem Tryd.off37_2 : fOff Tryd.prog 37 2 = some 2 := by kernel_rfl
theorem Tryd.off37_3 : fOff Tryd.prog 37 3 = some 6 := by kernel_rfl
theorem Tryd.off37_4 : fOff Tryd.prog 37 4 = some 7 := by kernel_rfl
theorem Tryd.ag38 : isAggB Tryd.prog 38 = some true := by kernel_rfl
theorem Tryd.sz38 : (Tryd.prog.info? 38).map (·.size) = some 8 := by kernel_rfl
theorem Tryd.is38 : (Tryd.prog.info? 38).isSome = true := by kernel_rfl
theorem Tryd.us38 : (Tryd.prog.underlying 38).isSome = true := by kernel_rfl
theorem Tryd.off38_0 : fOff Tryd.prog 38 0 = some 0 := by kernel_rfl
theorem Tryd.off38_1 : fOff Tryd.prog 38 1 = some 1 := by kernel_rfl
theorem Tryd.off38_2 : fOff Tryd.prog 38 2 = some 2 := by kernel_rfl
theorem Tryd.off38_3 : fOff Tryd.prog 38 3 = some 6 := by kernel_rfl
theorem Tryd.off38_4 : fOff Tryd.prog 38 4 = some 7 := by kernel_rfl
theorem Tryd.ag39 : isAggB Tryd.prog 39 = some false := by kernel_rfl
theorem Tryd.sz39 : (Tryd.prog.info? 39).map (·.size) = some 1 := by kernel_rfl
theorem Tryd.is39 : (Tryd.prog.info? 39).isSome = true := by kernel_rfl
theorem Tryd.us39 : (Tryd.prog.underlying 39).isSome = true := by kernel_rfl
theorem Tryd.ag40 : isAggB Tryd.prog 40 = some false := by kernel_rfl
theorem Tryd.sz40 : (Tryd.prog.info? 40).map (·.size) = some 1 := by kernel_rfl
theorem Tryd.is40 : (Tryd.prog.info? 40).isSome = true := by kernel_rfl
theorem Tryd.us40 : (Tryd.prog.underlying 40).isSome = true := by kernel_rfl
theorem Tryd.ag41 : isAggB Tryd.prog 41 = some true := by kernel_rfl
theorem Tryd.sz41 : (Tryd.prog.info? 41).map (·.size) = some 2 := by kernel_rfl
theorem Tryd.is41 : (Tryd.prog.info? 41).isSome = true := by kernel_rfl
theorem Tryd.us41 : (Tryd.prog.underlying 41).isSome = true := by kernel_rfl
theorem Tryd.off41_0 : fOff Tryd.prog 41 0 = some 0 := by kernel_rfl
theorem Tryd.off41_1 : fOff Tryd.prog 41 1 = some 1 := by kernel_rfl
theorem Tryd.ag42 : isAggB Tryd.prog 42 = some true := by kernel_rfl
theorem Tryd.sz42 : (Tryd.prog.info? 42).map (·.size) = some 2 := by kernel_rfl
theorem Tryd.is42 : (Tryd.prog.info? 42).isSome = true := by kernel_rfl
theorem Tryd.us42 : (Tryd.prog.underlying 42).isSome = true := by kernel_rfl
theorem Tryd.off42_0 : fOff Tryd.prog 42 0 = some 0 := by kernel_rfl
theorem Tryd.off42_1 : fOff Tryd.prog 42 1 = some 1 := by kernel_rfl
theorem Tryd.ag43 : isAggB Tryd.prog 43 = some false := by kernel_rfl
theorem Tryd.sz43 : (Tryd.prog.info? 43).map (·.size) = some 1 := by kernel_rfl
theorem Tryd.is43 : (Tryd.prog.info? 43).isSome = true := by kernel_rfl
theorem Tryd.us43 : (Tryd.prog.underlying 43).isSome = true := by kernel_rfl
theorem Tryd.ag44 : isAggB Tryd.prog 44 = some false := by kernel_rfl
theorem Tryd.sz44 : (Tryd.prog.info? 44).map (·.size) = some 1 := by kernel_rfl
theorem Tryd.is44 : (Tryd.prog.info? 44).isSome = true := by kernel_rfl
theorem Tryd.us44 : (Tryd.prog.underlying 44).isSome = true := by kernel_rfl
theorem Tryd.ag45 : isAggB Tryd.prog 45 = some false := by kernel_rfl
theorem Tryd.sz45 : (Tryd.prog.info? 45).map (·.size) = some 1 := by kernel_rfl
theorem Tryd.is45 : (Tryd.prog.info? 45).isSome = true := by kernel_rfl
theorem Tryd.us45 : (Tryd.prog.underlying 45).isSome = true := by kernel_rfl
theorem Tryd.ag46 : isAggB Tryd.prog 46 = some true := by kernel_rfl
theorem Tryd.sz46 : (Tryd.prog.info? 46).map (·.size) = some 4 := by kernel_rfl
theorem Tryd.is46 : (Tryd.prog.info? 46).isSome = true := by kernel_rfl
theorem Tryd.us46 : (Tryd.prog.underlying 46).isSome = true := by kernel_rfl
theorem Tryd.off46_0 : fOff Tryd.prog 46 0 = some 0 := by kernel_rfl
theorem Tryd.off46_1 : fOff Tryd.prog 46 1 = some 1 := by kernel_rfl
theorem Tryd.off46_2 : fOff Tryd.prog 46 2 = some 2 := by kernel_rfl
theorem Tryd.off46_3 : fOff Tryd.prog 46 3 = some 3 := by kernel_rfl
theorem Tryd.ag47 : isAggB Tryd.prog 47 = some true := by kernel_rfl
theorem Tryd.sz47 : (Tryd.prog.info? 47).map (·.size) = some 4 := by kernel_rfl
theorem Tryd.is47 : (Tryd.prog.info? 47).isSome = true := by kernel_rfl
theorem Tryd.us47 : (Tryd.prog.underlying 47).isSome = true := by kernel_rfl
theorem Tryd.off47_0 : fOff Tryd.prog 47 0 = some 0 := by kernel_rfl
theorem Tryd.off47_1 : fOff Tryd.prog 47 1 = some 1 := by kernel_rfl
theorem Tryd.off47_2 : fOff Tryd.prog 47 2 = some 2 := by kernel_rfl
theorem Tryd.off47_3 : fOff Tryd.prog 47 3 = some 3 := by kernel_rfl
theorem Tryd.ag48 : isAggB Tryd.prog 48 = some false := by kernel_rfl
theorem Tryd.sz48 : (Tryd.prog.info? 48).map (·.size) = some 1 := by kernel_rfl
theorem Tryd.is48 : (Tryd.prog.info? 48).isSome = true := by kernel_rfl
theorem Tryd.us48 : (Tryd.prog.underlying 48).isSome = true := by kernel_rfl
theorem Tryd.ag50 : isAggB Tryd.prog 50 = some false := by kernel_rfl
theorem Tryd.sz50 : (Tryd.prog.info? 50).map (·.size) = some 1 := by kernel_rfl
theorem Tryd.is50 : (Tryd.prog.info? 50).isSome = true := by kernel_rfl
theorem Tryd.us50 : (Tryd.prog.underlying 50).isSome = true := by kernel_rfl
theorem Tryd.ag51 : isAggB Tryd.prog 51 = some false := by kernel_rfl
theorem Tryd.sz51 : (Tryd.prog.info? 51).map (·.size) = some 1 := by kernel_rfl
theorem Tryd.is51 : (Tryd.prog.info? 51).isSome = true := by kernel_rfl
theorem Tryd.us51 : (Tryd.prog.underlying 51).isSome = true := by kernel_rfl
theorem Tryd.ag52 : isAggB Tryd.prog 52 = some false := by kernel_rfl
theorem Tryd.sz52 : (Tryd.prog.info? 52).map (·.size) = some 1 := by kernel_rfl
theorem Tryd.is52 : (Tryd.prog.info? 52).isSome = true := by kernel_rfl
theorem Tryd.us52 : (Tryd.prog.underlying 52).isSome = true := by kernel_rfl
theorem Tryd.zi3_52 : (Tryd.prog.info? 3).map (fun i => (i.zero, i.size, i.bytes)) = some (some (.int .i64 0), 1, 8) := by kernel_rfl
theorem Tryd.ag53 : isAggB Tryd.prog 53 = some false := by kernel_rfl
theorem Tryd.sz53 : (Tryd.prog.info? 53).map (·.size) = some 1 := by kernel_rfl
theorem Tryd.is53 : (Tryd.prog.info? 53).isSome = true := by kernel_rfl
theorem Tryd.us53 : (Tryd.prog.underlying 53).isSome = true := by kernel_rfl
theorem Tryd.ag54 : isAggB Tryd.prog 54 = some false := by kernel_rfl
theorem Tryd.sz54 : (Tryd.prog.info? 54).map (·.size) = some 1 := by kernel_rfl
theorem Tryd.is54 : (Tryd.prog.info? 54).isSome = true := by kernel_rfl
theorem Tryd.us54 : (Tryd.prog.underlying 54).isSome = true := by kernel_rfl
theorem Tryd.ag55 : isAggB Tryd.prog 55 = some false := by kernel_rfl
theorem Tryd.sz55 : (Tryd.prog.info? 55).map (·.size) = some 1 := by kernel_rfl
theorem Tryd.is55 : (Tryd.prog.info? 55).isSome = true := by kernel_rfl
theorem Tryd.us55 : (Tryd.prog.underlying 55).isSome = true := by kernel_rfl
theorem Tryd.ag56 : isAggB Tryd.prog 56 = some false := by kernel_rfl
theorem Tryd.sz56 : (Tryd.prog.info? 56).map (·.size) = some 1 := by kernel_rfl
theorem Tryd.is56 : (Tryd.prog.info? 56).isSome = true := by kernel_rfl
theorem Tryd.us56 : (Tryd.prog.underlying 56).isSome = true := by kernel_rfl
theorem Tryd.ag57 : isAggB Tryd.prog 57 = some false := by kernel_rfl
theorem Tryd.sz57 : (Tryd.prog.info? 57).map (·.size) = some 1 := by kernel_rfl
theorem Tryd.is57 : (Tryd.prog.info? 57).isSome = true := by kernel_rfl
theorem Tryd.us57 : (Tryd.prog.underlying 57).isSome = true := by kernel_rfl
theorem Tryd.ag58 : isAggB Tryd.prog 58 = some false := by kernel_rfl
theorem Tryd.sz58 : (Tryd.prog.info? 58).map (·.size) = some 1 := by kernel_rfl
theorem Tryd.is58 : (Tryd.prog.info? 58).isSome = true := by kernel_rfl
theorem Tryd.us58 : (Tryd.prog.underlying 58).isSome = true := by kernel_rfl
theorem Tryd.ag59 : isAggB Tryd.prog 59 = some false := by kernel_rfl
theorem Tryd.sz59 : (Tryd.prog.info? 59).map (·.size) = some 1 := by kernel_rfl
theorem Tryd.is59 : (Tryd.prog.info? 59).isSome = true := by kernel_rfl
theorem Tryd.us59 : (Tryd.prog.underlying 59).isSome = true := by kernel_rfl
theorem Tryd.ag60 : isAggB Tryd.prog 60 = some false := by kernel_rfl
theorem Tryd.sz60 : (Tryd.prog.info? 60).map (·.size) = some 1 := by kernel_rfl
theorem Tryd.is60 : (Tryd.prog.info? 60).isSome = true := by kernel_rfl
theorem Tryd.us60 : (Tryd.prog.underlying 60).isSome = true := by kernel_rfl
theorem Tryd.zi4_60 : (Tryd.prog.info? 4).map (fun i => (i.zero, i.size, i.bytes)) = some (some (.bool false), 1, 1) := by kernel_rfl
theorem Tryd.ag61 : isAggB Tryd.prog 61 = some false := by kernel_rfl
theorem Tryd.sz61 : (Tryd.prog.info? 61).map (·.size) = some 1 := by kernel_rfl
theorem Tryd.is61 : (Tryd.prog.info? 61).isSome = true := by kernel_rfl
theorem Tryd.us61 : (Tryd.prog.underlying 61).isSome = true := by kernel_rfl
theorem Tryd.ag62 : isAggB Tryd.prog 62 = some false := by kernel_rfl
theorem Tryd.sz62 : (Tryd.prog.info? 62).map (·.size) = some 1 := by kernel_rfl
theorem Tryd.is62 : (Tryd.prog.info? 62).isSome = true := by kernel_rfl
theorem Tryd.us62 : (Tryd.prog.underlying 62).isSome = true := by kernel_rfl
theorem Tryd.ag63 : isAggB Tryd.prog 63 = some false := by kernel_rfl
theorem Tryd.sz63 : (Tryd.prog.info? 63).map (·.size) = some 1 := by kernel_rfl
theorem Tryd.is63 : (Tryd.prog.info? 63).isSome = true := by kernel_rfl
theorem Tryd.us63 : (Tryd.prog.underlying 63).isSome = true := by kernel_rfl
theorem Tryd.ag64 : isAggB Tryd.prog 64 = some false := by kernel_rfl
theorem Tryd.sz64 : (Tryd.prog.info? 64).map (·.size) = some 1 := by kernel_rfl
theorem Tryd.is64 : (Tryd.prog.info? 64).isSome = true := by kernel_rfl
theorem Tryd.us64 : (Tryd.prog.underlying 64).isSome = true := by kernel_rfl
theorem Tryd.ag65 : isAggB Tryd.prog 65 = some false := by kernel_rfl
theorem Tryd.sz65 : (Tryd.prog.info? 65).map (·.size) = some 1 := by kernel_rfl
theorem Tryd.is65 : (Tryd.prog.info? 65).isSome = true := by kernel_rfl
theorem Tryd.us65 : (Tryd.prog.underlying 65).isSome = true := by kernel_rfl
theorem Tryd.zi5_65 : (Tryd.prog.info? 5).map (fun i => (i.zero, i.size, i.bytes)) = some (some (.int .u8 0), 1, 1) := by kernel_rfl
theorem Tryd.ag66 : isAggB Tryd.prog 66 = some false := by kernel_rfl
theorem Tryd.sz66 : (Tryd.prog.info? 66).map (·.size) = some 1 := by kernel_rfl
theorem Tryd.is66 : (Tryd.prog.info? 66).isSome = true := by kernel_rfl
theorem Tryd.us66 : (Tryd.prog.underlying 66).isSome = true := by kernel_rfl
theorem Tryd.zi22_66 : (Tryd.prog.info? 22).map (fun i => (i.zero, i.size, i.bytes)) = some (some (.slice none 0 0), 1, 24) := by kernel_rfl
theorem Tryd.ag67 : isAggB Tryd.prog 67 = some false := by kernel_rfl
theorem Tryd.sz67 : (Tryd.prog.info? 67).map (·.size) = some 1 := by kernel_rfl
theorem Tryd.is67 : (Tryd.prog.info? 67).isSome = true := by kernel_rfl
theorem Tryd.us67 : (Tryd.prog.underlying 67).isSome = true := by kernel_rfl
theorem Tryd.ag68 : isAggB Tryd.prog 68 = some false := by kernel_rfl
theorem Tryd.sz68 : (Tryd.prog.info? 68).map (·.size) = some 1 := by kernel_rfl
theorem Tryd.is68 : (Tryd.prog.info? 68).isSome = true := by kernel_rfl
theorem Tryd.us68 : (Tryd.prog.underlying 68).isSome = true := by kernel_rfl
theorem Tryd.ag69 : isAggB Tryd.prog 69 = some false := by kernel_rfl
theorem Tryd.sz69 : (Tryd.prog.info? 69).map (·.size) = some 1 := by kernel_rfl
theorem Tryd.is69 : (Tryd.prog.info? 69).isSome = true := by kernel_rfl
theorem Tryd.us69 : (Tryd.prog.underlying 69).isSome = true := by kernel_rfl
theorem Tryd.ag70 : isAggB Tryd.prog 70 = some false := by kernel_rfl
theorem Tryd.sz70 : (Tryd.prog.info? 70).map (·.size) = some 1 := by kernel_rfl
theorem Tryd.is70 : (Tryd.prog.info? 70).isSome = true := by kernel_rfl
theorem Tryd.us70 : (Tryd.prog.underlying 70).isSome = true := by kernel_rfl
theorem Tryd.ag71 : isAggB Tryd.prog 71 = some false := by kernel_rfl
theorem Tryd.sz71 : (Tryd.prog.info? 71).map (·.size) = some 1 := by kernel_rfl
theorem Tryd.is71 : (Tryd.prog.info? 71).isSome = true := by kernel_rfl
theorem Tryd.us71 : (Tryd.prog.underlying 71).isSome = true := by kernel_rfl
theorem Tryd.ag72 : isAggB Tryd.prog 72 = some false := by kernel_rfl
theorem Tryd.sz72 : (Tryd.prog.info? 72).map (·.size) = some 1 := by kernel_rfl
theorem Tryd.is72 : (Tryd.prog.info? 72).isSome = true := by kernel_rfl
theorem Tryd.us72 : (Tryd.prog.underlying 72).isSome = true := by kernel_rfl
theorem Tryd.ag73 : isAggB Tryd.prog 73 = some false := by kernel_rfl
theorem Tryd.sz73 : (Tryd.prog.info? 73).map (·.size) = some 1 := by kernel_rfl
theorem Tryd.is73 : (Tryd.prog.info? 73).isSome = true := by kernel_rfl
theorem Tryd.us73 : (Tryd.prog.underlying 73).isSome = true := by kernel_rfl
theorem Tryd.ag74 : isAggB Tryd.prog 74 = some false := by kernel_rfl
theorem Tryd.sz74 : (Tryd.prog.info? 74).map (·.size) = some 1 := by kernel_rfl
theorem Tryd.is74 : (Tryd.prog.info? 74).isSome = true := by kernel_rfl
theorem Tryd.us74 : (Tryd.prog.underlying 74).isSome = true := by kernel_rfl
theorem Tryd.ag75 : isAggB Tryd.prog 75 = some true := by kernel_rfl
theorem Tryd.sz75 : (Tryd.prog.info? 75).map (·.size) = some 64 := by kernel_rfl
theorem Tryd.is75 : (Tryd.prog.info? 75).isSome = true := by kernel_rfl
theorem Tryd.us75 : (Tryd.prog.underlying 75).isSome = true := by kernel_rfl
theorem Tryd.ag77 : isAggB Tryd.prog 77 = some false := by kernel_rfl
theorem Tryd.sz77 : (Tryd.prog.info? 77).map (·.size) = some 1 := by kernel_rfl
theorem Tryd.is77 : (Tryd.prog.info? 77).isSome = true := by kernel_rfl
theorem Tryd.us77 : (Tryd.prog.underlying 77).isSome = true := by kernel_rfl
theorem Tryd.ag78 : isAggB Tryd.prog 78 = some false := by kernel_rfl
theorem Tryd.sz78 : (Tryd.prog.info? 78).map (·.size) = some 1 := by kernel_rfl
theorem Tryd.is78 : (Tryd.prog.info? 78).isSome = true := by kernel_rfl
theorem Tryd.us78 : (Tryd.prog.underlying 78).isSome = true := by kernel_rfl
theorem Tryd.ag79 : isAggB Tryd.prog 79 = some false := by kernel_rfl
theorem Tryd.sz79 : (Tryd.prog.info? 79).map (·.size) = some 1 := by kernel_rfl
theorem Tryd.is79 : (Tryd.prog.info? 79).isSome = true := by kernel_rfl
theorem Tryd.us79 : (Tryd.prog.underlying 79).isSome = true := by kernel_rfl
theorem Tryd.ag80 : isAggB Tryd.prog 80 = some false := by kernel_rfl
theorem Tryd.sz80 : (Tryd.prog.info? 80).map (·.size) = some 1 := by kernel_rfl
theorem Tryd.is80 : (Tryd.prog.info? 80).isSome = true := by kernel_rfl
theorem Tryd.us80 : (Tryd.prog.underlying 80).isSome = true := by kernel_rfl
theorem Tryd.ag81 : isAggB Tryd.prog 81 = some false := by kernel_rfl
theorem Tryd.sz81 : (Tryd.prog.info? 81).map (·.size) = some 1 := by kernel_rfl
theorem Tryd.is81 : (Tryd.prog.info? 81).isSome = true := by kernel_rfl
theorem Tryd.us81 : (Tryd.prog.underlying 81).isSome = true := by kernel_rfl
theorem Tryd.ag82 : isAggB Tryd.prog 82 = some false := by kernel_rfl
theorem Tryd.sz82 : (Tryd.prog.info? 82).map (·.size) = some 1 := by kernel_rfl
theorem Tryd.is82 : (Tryd.prog.info? 82).isSome = true := by kernel_rfl
theorem Tryd.us82 : (Tryd.prog.underlying 82).isSome = true := by kernel_rfl
theorem Tryd.ag83 : isAggB Tryd.prog 83 = some false := by kernel_rfl
theorem Tryd.sz83 : (Tryd.prog.info? 83).map (·.size) = some 1 := by kernel_rfl
theorem Tryd.is83 : (Tryd.prog.info? 83).isSome = true := by kernel_rfl
theorem Tryd.us83 : (Tryd.prog.underlying 83).isSome = true := by kernel_rfl
theorem Tryd.ag84 : isAggB Tryd.prog 84 = some false := by kernel_rfl
theorem Tryd.sz84 : (Tryd.prog.info? 84).map (·.size) = some 1 := by kernel_rfl
theorem Tryd.is84 : (Tryd.prog.info? 84).isSome = true := by kernel_rfl
theorem Tryd.us84 : (Tryd.prog.underlying 84).isSome = true := by kernel_rfl
theorem Tryd.ag86 : isAggB Tryd.prog 86 = some false := by kernel_rfl
theorem Tryd.sz86 : (Tryd.prog.info? 86).map (·.size) = some 1 := by kernel_rfl
theorem Tryd.is86 : (Tryd.prog.info? 86).isSome = true := by kernel_rfl
theorem Tryd.us86 : (Tryd.prog.underlying 86).isSome = true := by kernel_rfl
theorem Tryd.ag87 : isAggB Tryd.prog 87 = some false := by kernel_rfl
theorem Tryd.sz87 : (Tryd.prog.info? 87).map (·.size) = some 1 := by kernel_rfl
theorem Tryd.is87 : (Tryd.prog.info? 87).isSome = true := by kernel_rfl
theorem Tryd.us87 : (Tryd.prog.underlying 87).isSome = true := by kernel_rfl
theorem Tryd.ag88 : isAggB Tryd.prog 88 = some false := by kernel_rfl
theorem Tryd.sz88 : (Tryd.prog.info? 88).map (·.size) = some 1 := by kernel_rfl
theorem Tryd.is88 : (Tryd.prog.info? 88).isSome = true := by kernel_rfl
theorem Tryd.us88 : (Tryd.prog.underlying 88).isSome = true := by kernel_rfl
theorem Tryd.ag89 : isAggB Tryd.prog 89 = some true := by kernel_rfl
theorem Tryd.sz89 : (Tryd.prog.info? 89).map (·.size) = some 4 := by kernel_rfl
theorem Tryd.is89 : (Tryd.prog.info? 89).isSome = true := by kernel_rfl
theorem Tryd.us89 : (Tryd.prog.underlying 89).isSome = true := by kernel_rfl
theorem Tryd.off89_0 : fOff Tryd.prog 89 0 = some 0 := by kernel_rfl
theorem Tryd.off89_1 : fOff Tryd.prog 89 1 = some 1 := by kernel_rfl
theorem Tryd.off89_2 : fOff Tryd.prog 89 2 = some 2 := by kernel_rfl
theorem Tryd.off89_3 : fOff Tryd.prog 89 3 = some 3 := by kernel_rfl
theorem Tryd.ag90 : isAggB Tryd.prog 90 = some true := by kernel_rfl
theorem Tryd.sz90 : (Tryd.prog.info? 90).map (·.size) = some 4 := by kernel_rfl
theorem Tryd.is90 : (Tryd.prog.info? 90).isSome = true := by kernel_rfl
theorem Tryd.us90 : (Tryd.prog.underlying 90).isSome = true := by kernel_rfl
theorem Tryd.off90_0 : fOff Tryd.prog 90 0 = some 0 := by kernel_rfl
theorem Tryd.off90_1 : fOff Tryd.prog 90 1 = some 1 := by kernel_rfl
theorem Tryd.off90_2 : fOff Tryd.prog 90 2 = some 2 := by kernel_rfl
theorem Tryd.off90_3 : fOff Tryd.prog 90 3 = some 3 := by kernel_rfl
theorem Tryd.ag91 : isAggB Tryd.prog 91 = some true := by kernel_rfl
theorem Tryd.sz91 : (Tryd.prog.info? 91).map (·.size) = some 0 := by kernel_rfl
theorem Tryd.is91 : (Tryd.prog.info? 91).isSome = true := by kernel_rfl
theorem Tryd.us91 : (Tryd.prog.underlying 91).isSome = true := by kernel_rfl
theorem Tryd.ag92 : isAggB Tryd.prog 92 = some true := by kernel_rfl
theorem Tryd.sz92 : (Tryd.prog.info? 92).map (·.size) = some 0 := by kernel_rfl
theorem Tryd.is92 : (Tryd.prog.info? 92).isSome = true := by kernel_rfl
theorem Tryd.us92 : (Tryd.prog.underlying 92).isSome = true := by kernel_rfl
theorem Tryd.ag93 : isAggB Tryd.prog 93 = some true := by kernel_rfl
theorem Tryd.sz93 : (Tryd.prog.info? 93).map (·.size) = some 0 := by kernel_rfl
theorem Tryd.is93 : (Tryd.prog.info? 93).isSome = true := by kernel_rfl
theorem Tryd.us93 : (Tryd.prog.underlying 93).isSome = true := by kernel_rfl
theorem Tryd.ag94 : isAggB Tryd.prog 94 = some false := by kernel_rfl
theorem Tryd.sz94 : (Tryd.prog.info? 94).map (·.size) = some 1 := by kernel_rfl
theorem Tryd.is94 : (Tryd.prog.info? 94).isSome = true := by kernel_rfl
theorem Tryd.us94 : (Tryd.prog.underlying 94).isSome = true := by kernel_rfl
theorem Tryd.ag95 : isAggB Tryd.prog 95 = some false := by kernel_rfl
theorem Tryd.sz95 : (Tryd.prog.info? 95).map (·.size) = some 1 := by kernel_rfl
theorem Tryd.is95 : (Tryd.prog.info? 95).isSome = true := by kernel_rfl
theorem Tryd.us95 : (Tryd.prog.underlying 95).isSome = true := by kernel_rfl
theorem Tryd.ag96 : isAggB Tryd.prog 96 = some false := by kernel_rfl
theorem Tryd.sz96 : (Tryd.prog.info? 96).map (·.size) = some 1 := by kernel_rfl
theorem Tryd.is96 : (Tryd.prog.info? 96).isSome = true := by kernel_rfl
theorem Tryd.us96 : (Tryd.prog.underlying 96).isSome = true := by kernel_rfl
theorem Tryd.ag97 : isAggB Tryd.prog 97 = some false := by kernel_rfl
theorem Tryd.sz97 : (Tryd.prog.info? 97).map (·.size) = some 1 := by kernel_rfl
theorem Tryd.is97 : (Tryd.prog.info? 97).isSome = true := by kernel_rfl
theorem Tryd.us97 : (Tryd.prog.underlying 97).isSome = true := by kernel_rfl
theorem Tryd.ag98 : isAggB Tryd.prog 98 = some false := by kernel_rfl
theorem Tryd.sz98 : (Tryd.prog.info? 98).map (·.size) = some 1 := by kernel_rfl
theorem Tryd.is98 : (Tryd.prog.info? 98).isSome = true := by kernel_rfl
theorem Tryd.us98 : (Tryd.prog.underlying 98).isSome = true := by kernel_rfl
theorem Tryd.ag99 : isAggB Tryd.prog 99 = some false := by kernel_rfl
theorem Tryd.sz99 : (Tryd.prog.info? 99).map (·.size) = some 1 := by kernel_rfl
theorem Tryd.is99 : (Tryd.prog.info? 99).isSome = true := by kernel_rfl
theorem Tryd.us99 : (Tryd.prog.underlying 99).isSome = true := by kernel_rfl
theorem Tryd.ag100 : isAggB Tryd.prog 100 = some false := by kernel_rfl
theorem Tryd.sz100 : (Tryd.prog.info? 100).map (·.size) = some 1 := by kernel_rfl
theorem Tryd.is100 : (Tryd.prog.info? 100).isSome = true := by kernel_rfl
theorem Tryd.us100 : (Tryd.prog.underlying 100).isSome = true := by kernel_rfl
theorem Tryd.ag101 : isAggB Tryd.prog 101 = some true := by kernel_rfl
theorem Tryd.sz101 : (Tryd.prog.info? 101).map (·.size) = some 11 := by kernel_rfl
theorem Tryd.is101 : (Tryd.prog.info? 101).isSome = true := by kernel_rfl
theorem Tryd.us101 : (Tryd.prog.underlying 101).isSome = true := by kernel_rfl
theorem Tryd.off101_0 : fOff Tryd.prog 101 0 = some 0 := by kernel_rfl
theorem Tryd.off101_1 : fOff Tryd.prog 101 1 = some 1 := by kernel_rfl
theorem Tryd.off101_2 : fOff Tryd.prog 101 2 = some 2 := by kernel_rfl
theorem Tryd.off101_3 : fOff Tryd.prog 101 3 = some 3 := by kernel_rfl
theorem Tryd.off101_4 : fOff Tryd.prog 101 4 = some 4 := by kernel_rfl
theorem Tryd.off101_5 : fOff Tryd.prog 101 5 = some 5 := by kernel_rfl
theorem Tryd.off101_6 : fOff Tryd.prog 101 6 = some 6 := by kernel_rfl
theorem Tryd.off101_7 : fOff Tryd.prog 101 7 = some 7 := by kernel_rfl
theorem Tryd.off101_8 : fOff Tryd.prog 101 8 = some 8 := by kernel_rfl
theorem Tryd.off101_9 : fOff Tryd.prog 101 9 = some 9 := by kernel_rfl
theorem Tryd.off101_10 : fOff Tryd.prog 101 10 = some 10 := by kernel_rfl
theorem Tryd.ag102 : isAggB Tryd.prog 102 = some true := by kernel_rfl
theorem Tryd.sz102 : (Tryd.prog.info? 102).map (·.size) = some 11 := by kernel_rfl
theorem Tryd.is102 : (Tryd.prog.info? 102).isSome = true := by kernel_rfl
theorem Tryd.us102 : (Tryd.prog.underlying 102).isSome = true := by kernel_rfl
theorem Tryd.off102_0 : fOff Tryd.prog 102 0 = some 0 := by kernel_rfl
theorem Tryd.off102_1 : fOff Tryd.prog 102 1 = some 1 := by kernel_rfl
theorem Tryd.off102_2 : fOff Tryd.prog 102 2 = some 2 := by kernel_rfl
theorem Tryd.off102_3 : fOff Tryd.prog 102 3 = some 3 := by kernel_rfl
theorem Tryd.off102_4 : fOff Tryd.prog 102 4 = some 4 := by kernel_rfl
theorem Tryd.off102_5 : fOff Tryd.prog 102 5 = some 5 := by kernel_rfl
theorem Tryd.off102_6 : fOff Tryd.prog 102 6 = some 6 := by kernel_rfl
theorem Tryd.off102_7 : fOff Tryd.prog 102 7 = some 7 := by kernel_rfl
theorem Tryd.off102_8 : fOff Tryd.prog 102 8 = some 8 := by kernel_rfl
theorem Tryd.off102_9 : fOff Tryd.prog 102 9 = some 9 := by kernel_rfl
theorem Tryd.off102_10 : fOff Tryd.prog 102 10 = some 10 := by kernel_rfl
theorem Tryd.ag103 : isAggB Tryd.prog 103 = some false := by kernel_rfl
theorem Tryd.sz103 : (Tryd.prog.info? 103).map (·.size) = some 1 := by kernel_rfl
theorem Tryd.is103 : (Tryd.prog.info? 103).isSome = true := by kernel_rfl
theorem Tryd.us103 : (Tryd.prog.underlying 103).isSome = true := by kernel_rfl
theorem Tryd.cl3 : callable Tryd.prog 3 = true := by kernel_rfl
theorem Tryd.cl4 : callable Tryd.prog 4 = true := by kernel_rfl
theorem Tryd.cl5 : callable Tryd.prog 5 = true := by kernel_rfl
theorem Tryd.cl6 : callable Tryd.prog 6 = true := by kernel_rfl
theorem Tryd.cl7 : callable Tryd.prog 7 = true := by kernel_rfl
theorem Tryd.cl8 : callable Tryd.prog 8 = true := by kernel_rfl
theorem Tryd.cl9 : callable Tryd.prog 9 = true := by kernel_rfl
theorem Tryd.cl10 : callable Tryd.prog 10 = true := by kernel_rfl
theorem Tryd.cl11 : callable Tryd.prog 11 = true := by kernel_rfl
theorem Tryd.cl12 : callable Tryd.prog 12 = true := by kernel_rfl
theorem Tryd.cl13 : callable Tryd.prog 13 = true := by kernel_rfl
theorem Tryd.cl14 : callable Tryd.prog 14 = true := by kernel_rfl
theorem Tryd.cl15 : callable Tryd.prog 15 = true := by kernel_rfl
theorem Tryd.cl16 : callable Tryd.prog 16 = true := by kernel_rfl
theorem Tryd.cl17 : callable Tryd.prog 17 = true := by kernel_rfl
theorem Tryd.cl18 : callable Tryd.prog 18 = true := by kernel_rfl
theorem Tryd.cl19 : callable Tryd.prog 19 = true := by kernel_rfl
theorem Tryd.cl20 : callable Tryd.prog 20 = true := by kernel_rfl
theorem Tryd.cl21 : callable Tryd.prog 21 = true := by kernel_rfl
theorem Tryd.cl22 : callable Tryd.prog 22 = true := by kernel_rfl
theorem Tryd.cl23 : callable Tryd.prog 23 = true := by kernel_rfl
theorem Tryd.cl24 : callable Tryd.prog 24 = true := by kernel_rfl
theorem Tryd.cl25 : callable Tryd.prog 25 = true := by kernel_rfl
theorem Tryd.cl26 : callable Tryd.prog 26 = true := by kernel_rfl
theorem Tryd.cl27 : callable Tryd.prog 27 = true := by kernel_rfl
theorem Tryd.cl28 : callable Tryd.prog 28 = true := by kernel_rfl
theorem Tryd.cl29 : callable Tryd.prog 29 = true := by kernel_rfl
theorem Tryd.cl30 : callable Tryd.prog 30 = true := by kernel_rfl
theorem Tryd.cl31 : callable Tryd.prog 31 = true := by kernel_rfl
theorem Tryd.cl32 : callable Tryd.prog 32 = true := by kernel_rfl
theorem Tryd.cl33 : callable Tryd.prog 33 = true := by kernel_rfl
theorem Tryd.cl34 : callable Tryd.prog 34 = true := by kernel_rfl
theorem Tryd.cl35 : callable Tryd.prog 35 = true := by kernel_rfl
theorem Tryd.cl36 : callable Tryd.prog 36 = true := by kernel_rfl
theorem Tryd.cl37 : callable Tryd.prog 37 = true := by kernel_rfl
theorem Tryd.cl38 : callable Tryd.prog 38 = true := by kernel_rfl
theorem Tryd.cl39 : callable Tryd.prog 39 = true := by kernel_rfl
theorem Tryd.cl40 : callable Tryd.prog 40 = true := by kernel_rfl
theorem Tryd.cl41 : callable Tryd.prog 41 = true := by kernel_rfl
theorem Tryd.cl42 : callable Tryd.prog 42 = true := by kernel_rfl
theorem Tryd.cl43 : callable Tryd.prog 43 = true := by kernel_rfl
theorem Tryd.cl44 : callable Tryd.prog 44 = true := by kernel_rfl
theorem Tryd.cl45 : callable Tryd.prog 45 = true := by kernel_rfl
theorem Tryd.cl46 : callable Tryd.prog 46 = true := by kernel_rfl
theorem Tryd.cl47 : callable Tryd.prog 47 = true := by kernel_rfl
theorem Tryd.cl48 : callable Tryd.prog 48 = true := by kernel_rfl
theorem Tryd.cl49 : callable Tryd.prog 49 = true := by kernel_rfl
theorem Tryd.cl50 : callable Tryd.prog 50 = true := by kernel_rfl
theorem Tryd.cl51 : callable Tryd.prog 51 = true := by kernel_rfl
theorem Tryd.cl52 : callable Tryd.prog 52 = true := by kernel_rfl
theorem Tryd.cl53 : callable Tryd.prog 53 = true := by kernel_rfl
theorem Tryd.cl54 : callable Tryd.prog 54 = true := by kernel_rfl
theorem Tryd.cl55 : callable Tryd.prog 55 = true := by kernel_rfl
theorem Tryd.cl56 : callable Tryd.prog 56 = true := by kernel_rfl
theorem Tryd.cl57 : callable Tryd.prog 57 = true := by kernel_rfl
theorem Tryd.cl58 : callable Tryd.prog 58 = true := by kernel_rfl
theorem Tryd.cl59 : callable Tryd.prog 59 = true := by kernel_rfl
theorem Tryd.cl60 : callable Tryd.prog 60 = true := by kernel_rfl
theorem Tryd.cl61 : callable Tryd.prog 61 = true := by kernel_rfl
theorem Tryd.cl62 : callable Tryd.prog 62 = true := by kernel_rfl
theorem Tryd.cl63 : callable Tryd.prog 63 = true := by kernel_rfl
theorem Tryd.cl64 : callable Tryd.prog 64 = true := by kernel_rfl
theorem Tryd.cl65 : callable Tryd.prog 65 = true := by kernel_rfl
theorem Tryd.cl66 : callable Tryd.prog 66 = true := by kernel_rfl
theorem Tryd.cl67 : callable Tryd.prog 67 = true := by kernel_rfl
theorem Tryd.cl68 : callable Tryd.prog 68 = true := by kernel_rfl
theorem Tryd.cl69 : callable Tryd.prog 69 = true := by kernel_rfl
theorem Tryd.cl70 : callable Tryd.prog 70 = true := by kernel_rfl
theorem Tryd.cl71 : callable Tryd.prog 71 = true := by kernel_rfl
theorem Tryd.cl72 : callable Tryd.prog 72 = true := by kernel_rfl
theorem Tryd.cl92 : callable Tryd.prog 92 = true := by kernel_rfl
end Go.Proofs.YtcandjdomeompaaDoor

