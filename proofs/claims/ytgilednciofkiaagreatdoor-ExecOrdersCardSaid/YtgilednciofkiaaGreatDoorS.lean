/- Each function of this translation has the small code that was printed for it. -/
import Derived.Test.YtgilednciofkiaaGreatDoorRows
import Derived.KernelRfl
import Derived.Test.YtgilednciofkiaaGreatDoorM3
import Derived.Test.YtgilednciofkiaaGreatDoorC
import Derived.Test.YtgilednciofkiaaGreatDoorC1
import Derived.Test.YtgilednciofkiaaGreatDoorX
import Derived.Test.YtgilednciofkiaaGreatDoorA
set_option linter.unusedSimpArgs false
set_option linter.unusedVariables false
namespace Go.Jq
open Go.Proofs
set_option maxRecDepth 100000
def eoNames:Names:=[(334,3),(270,6),(335,7),(23,8),(339,9),(279,10),(340,11),(41,12),(274,22),(275,23),(341,24),(342,25),(343,26),(344,27),(345,28),(346,29),(22,30),(40,31),(79,32),(349,33),(350,34),(351,35),(85,36),(86,37),(87,38),(347,41),(348,42),(100,43),(149,44),(30,55),(280,58),(281,59),(282,60),(295,61),(352,62),(31,63),(37,64),(33,65),(38,66),(39,67),(36,68),(59,69),(80,70),(81,71),(63,72),(82,73),(83,74),(84,75),(142,76),(143,77),(144,78),(145,79),(146,80),(153,81),(154,82),(298,92),(291,93),(296,94),(297,95),(60,96),(113,97),(114,98),(116,99),(102,111),(52,112),(56,114),(57,120),(58,121),(353,123),(354,124),(355,125),(356,126),(61,127),(62,128),(64,129),(65,130),(66,131),(53,132),(67,133),(68,134),(69,135),(70,136),(78,137),(104,138),(105,139),(106,140),(107,141),(108,142),(109,143),(110,144),(147,145),(148,146),(101,147),(150,148),(151,149),(152,150),(197,151),(198,152),(141,160),(299,163),(300,164),(111,165),(112,166),(174,167),(176,168),(103,174),(98,175),(357,178),(358,179),(359,180),(360,181),(115,182),(117,183),(118,184),(119,185),(120,186),(121,188),(122,189),(123,190),(124,191),(140,192),(171,193),(172,194),(173,195),(199,196),(200,197),(201,198),(229,199),(230,200),(196,202),(195,216),(301,217),(175,218),(177,219),(178,220),(179,221),(180,222),(181,223),(187,225),(231,233),(237,239),(222,248),(223,249),(249,257),(250,258)]
def eoG:Nat→SFunc
  | 334=>c334
  | 270=>c270
  | 335=>c335
  | 23=>c23
  | 339=>c339
  | 279=>c279
  | 340=>c340
  | 41=>c41
  | 274=>c274
  | 275=>c275
  | 341=>c341
  | 342=>c342
  | 343=>c343
  | 344=>c344
  | 345=>c345
  | 346=>c346
  | 22=>c22
  | 40=>c40
  | 79=>c79
  | 349=>c349
  | 350=>c350
  | 351=>c351
  | 85=>c85
  | 86=>c86
  | 87=>c87
  | 347=>c347
  | 348=>c348
  | 100=>c100
  | 149=>c149
  | 30=>c30
  | 280=>c280
  | 281=>c281
  | 282=>c282
  | 295=>c295
  | 352=>c352
  | 31=>c31
  | 37=>c37
  | 33=>c33
  | 38=>c38
  | 39=>c39
  | 36=>c36
  | 59=>c59
  | 80=>c80
  | 81=>c81
  | 63=>c63
  | 82=>c82
  | 83=>c83
  | 84=>c84
  | 142=>c142
  | 143=>c143
  | 144=>c144
  | 145=>c145
  | 146=>c146
  | 153=>c153
  | 154=>c154
  | 298=>c298
  | 291=>c291
  | 296=>c296
  | 297=>c297
  | 60=>c60
  | 113=>c113
  | 114=>c114
  | 116=>c116
  | 102=>c102
  | 52=>c52
  | 56=>c56
  | 57=>c57
  | 58=>c58
  | 353=>c353
  | 354=>c354
  | 355=>c355
  | 356=>c356
  | 61=>c61
  | 62=>c62
  | 64=>c64
  | 65=>c65
  | 66=>c66
  | 53=>c53
  | 67=>c67
  | 68=>c68
  | 69=>c69
  | 70=>c70
  | 78=>c78
  | 104=>c104
  | 105=>c105
  | 106=>c106
  | 107=>c107
  | 108=>c108
  | 109=>c109
  | 110=>c110
  | 147=>c147
  | 148=>c148
  | 101=>c101
  | 150=>c150
  | 151=>c151
  | 152=>c152
  | 197=>c197
  | 198=>c198
  | 141=>c141
  | 299=>c299
  | 300=>c300
  | 111=>c111
  | 112=>c112
  | 174=>c174
  | 176=>c176
  | 103=>c103
  | 98=>c98
  | 357=>c357
  | 358=>c358
  | 359=>c359
  | 360=>c360
  | 115=>c115
  | 117=>c117
  | 118=>c118
  | 119=>c119
  | 120=>c120
  | 121=>c121
  | 122=>c122
  | 123=>c123
  | 124=>c124
  | 140=>c140
  | 171=>c171
  | 172=>c172
  | 173=>c173
  | 199=>c199
  | 200=>c200
  | 201=>c201
  | 229=>c229
  | 230=>c230
  | 196=>c196
  | 195=>c195
  | 301=>c301
  | 175=>c175
  | 177=>c177
  | 178=>c178
  | 179=>c179
  | 180=>c180
  | 181=>c181
  | 187=>c187
  | 231=>c231
  | 237=>c237
  | 222=>c222
  | 223=>c223
  | 249=>c249
  | 250=>c250
  | _=>⟨0,0,.skip,[]⟩
theorem eo_c334:cFunc Tryz.prog eoNames.ψ Tryz.f3 [[0,1,2,3],[1,2,3,9],[1,2,3,10,11],[1,2,3,10,11,30],[8],[12,13,14],[12,13,14,15,16],[12,13,14,15,95],[8],[8]]=some c334:=by kernel_rfl
theorem eo_c270:cFunc Tryz.prog eoNames.ψ Tryz.f6 [[0,1,4],[4]]=some c270:=by kernel_rfl
theorem eo_c335:cFunc Tryz.prog eoNames.ψ Tryz.f7 [[1,2],[1,2,6],[1,2,6,7],[1,2,6,7],[1,2,6,7,22],[1,2,6,7],[1,2,6,7],[1,2,6,8],[1,2,6,8,9],[1,2,6,8,9],[1,2,6,8,9,36],[1,2,6,8,9,10],[1,2,6,8,9,10,11],[1,2,6,8,9,10,11],[1,2,6,8,9,10,11,58],[1,2,6,8,9,10,11],[1,2,6,8,9,10,11,71],[4,5],[1,2,6,8,9,10,11],[1,2,6,8,9,10,12],[1,2,6,8,9,10,12],[1,2,6,8,9,10,12,76],[1,2,6,8,9,10,12,13],[1,2,6,8,9,10,12,13],[1,2,6,8,9,10,12,13,84],[1,2,6,8,9,10,12,13,14],[1,2,6,8,9,10,12,13,14],[1,2,6,8,9,10,12,13,14,95],[1,2,6,8,9,10,12,13,14,15],[1,2,6,8,9,10,12,13,14,15,108],[1,2,6,8,9,10,12,13,14],[1,2,6,8,9,10,12,13,14],[1,2,6,8,9,10,12,13],[1,2,6,8,9,10,12],[1,2,6,8,9,10,135],[1,2,6,8,9,137],[4,5],[1,2,6,8,9],[1,2,8,16],[16,17],[16,145],[4,5],[4,5]]=some c335:=by kernel_rfl
theorem eo_c23:cFunc Tryz.prog eoNames.ψ Tryz.f8 [[],[1],[1,2,3],[0]]=some c23:=by kernel_rfl
theorem eo_c339:cFunc Tryz.prog eoNames.ψ Tryz.f9 [[2,3],[4]]=some c339:=by kernel_rfl
theorem eo_c279:cFunc Tryz.prog eoNames.ψ Tryz.f10 [[2,3],[4]]=some c279:=by kernel_rfl
theorem eo_c340:cFunc Tryz.prog eoNames.ψ Tryz.f11 [[2,3],[2,3,5],[2,3,5,15],[4],[2,3,6],[2,3,6,23],[4],[2,3,7],[2,3,7],[2,3,7,36],[2,3,7,8],[2,3,7,8,51],[4],[2,3,7],[4]]=some c340:=by kernel_rfl
theorem eo_c41:cFunc Tryz.prog eoNames.ψ Tryz.f12 [[1],[1,3],[1,3,16,17,18],[1,3,16,17,18],[1,3,16,17,18,19],[1,3,4,5,16,17,18],[1,3,4,5,6,16,17,18],[1,3,4,5,6,16,17,18,27],[1,3,5,6,16,17,18],[1,3,5,6,7,16,17,18],[1,3,5,6,7,16,17,18,41,42,43],[1,3,5,6,7,16,17,18,41,42,43],[1,3,5,6,7,16,17,18,41,42,43,44],[1,3,5,6,7,9,16,17,18,41,42,43],[1,3,5,6,7,16,17,18,41,42,43],[1,3,5,6,7,16,17,18,41,42,43],[1,3,16,17,18],[1,3,16,17,18],[3,72,73,74],[3,72,73,74],[3,72,73,74,75],[3,11,72,73,74],[3,11,12,72,73,74],[3,12,72,73,74,78,79,80],[3,12,72,73,74,78,79,80],[3,12,72,73,74,78,79,80,81],[3,12,14,72,73,74,78,79,80],[3,12,72,73,74,78,79,80],[3,12,72,73,74,78,79,80],[3,72,73,74],[3,72,73,74],[2]]=some c41:=by kernel_rfl
theorem eo_c274:cFunc Tryz.prog eoNames.ψ Tryz.f22 [[1,2],[1,2,3],[1,2,3,4],[1,2,3,4],[1,2,3,4,18],[1,2,3,4,5],[1,2,3,4,5,6],[1,2,3,4,5,6],[1,2,3,4,5,6,25],[1,2,3,4,5,6,40],[1,2,3,4,5,6],[1,2,3,4,5,6],[1,2,3,4],[1,2,3,4],[1,2,3,7],[1,2,3,7],[1,2,3,7,57],[1,2,3,7,8],[1,2,3,7,8,9],[1,2,3,7,8,9],[1,2,3,7,8,9,67],[1,2,3,7,8,9,10],[1,2,3,7,8,9,10,80],[1,2,3,7,8,9,10],[1,2,3,7,8,9],[1,2,3,7,8,9],[1,2,3,7],[1,2,3,7],[2]]=some c274:=by kernel_rfl
theorem eo_c275:cFunc Tryz.prog eoNames.ψ Tryz.f23 [[1,2,4],[1,2,4,5],[1,2,4,5,6],[1,4,5,7],[1,4,5,7,8],[1,4,5,7,8,9],[1,4,5,7,8,9,32],[1,4,5,7,8,9],[1,4,5,7,8,9,10],[1,4,5,7,8,9,10,11],[1,4,5,7,8,9,10,11],[1,4,5,7,8,9,10,11,44],[1,4,5,7,8,9,10,11,12],[1,4,5,7,8,9,10,11,12,13],[1,4,5,7,8,9,10,11,12,13],[1,4,5,7,8,9,10,11,12,13,57],[1,4,5,7,8,9,10,11,12,13,14],[1,4,5,7,8,9,10,11,12,13,14,15],[1,4,5,7,8,9,10,11,12,13,14,15,16],[1,4,5,7,8,9,10,11,12,13,14,15,16,74],[1,4,5,7,8,9,10,11,12,13,14,15,16],[1,4,5,7,8,9,10,11,12,13,14,15,16,17],[1,4,5,7,8,9,10,11,12,13,15,16,17,83],[1,4,5,7,8,9,10,11,12,13,15,16,17,83,95],[1,4,5,7,8,9,10,11,12,13,15,16,17,83,95],[1,4,5,7,8,9,10,11,12,13,15,16,17,83,95],[1,4,5,7,8,9,10,11,12,13,15,16,17,83,95],[1,4,5,7,8,9,10,11,12,13],[1,4,5,7,8,9,10,11,12,13],[1,4,5,7,8,9,10,11,12,13,15,16,17,83,108],[1,4,5,7,8,9,10,11,12,13,15,16,17,83,108],[1,4,5,7,8,9,10,11,12,13,15,16,17,83,108],[1,4,5,7,8,9,10,11,12,13,15,16,17,83,108],[1,4,5,7,8,9,10,11,12,13],[1,4,5,7,8,9,10,11,12,13],[1,4,5,7,8,9,10,11,12,13,15,16,17,83,121],[1,4,5,7,8,9,10,11,12,13],[1,4,5,7,8,9,10,11,12,13,15,16,17,83,127],[1,4,5,7,8,9,10,11,12,13],[1,4,5,7,8,9,10,11,12,13],[1,4,5,7,8,9,10,11,12,13,15,16,17,139],[1,4,5,7,8,9,10,11,12,13],[1,4,5,7,8,9,10,11,12,13],[1,4,5,7,8,9,10,11,12,13],[1,4,5,7,8,9,10,11,12,13],[1,4,5,7,8,9,10,11],[1,4,5,7,8,9,10,11],[4,5,18],[4,5,18,158],[4,5],[4]]=some c275:=by kernel_rfl
theorem eo_c341:cFunc Tryz.prog eoNames.ψ Tryz.f24 [[1],[1,3],[1,3,4],[1,3,4],[1,3,4,11],[1,3,4,5],[1,3,4,5],[1,3,4,5,21],[1,3,4,5,6],[1,3,4,5,38],[1,3,4,5],[1,3,4,5],[1,3,4],[2]]=some c341:=by kernel_rfl
theorem eo_c342:cFunc Tryz.prog eoNames.ψ Tryz.f25 [[1,2,4,5,6,9],[1,2,4,5,6,9,23],[12],[1,2,4,5,6,9,13,14,15],[1,2,4,5,6,9,13,14,34],[12],[1,2,4,5,6,9,16],[1,2,4,5,6,9,18],[1,2,4,5,6,9,18,19],[1,2,4,5,6,9,18,19],[1,2,4,5,6,9,18,19,53],[1,2,4,5,6,9,18,19],[1,2,4,5,6,9,18,19],[12]]=some c342:=by kernel_rfl
theorem eo_c343:cFunc Tryz.prog eoNames.ψ Tryz.f26 [[1],[2]]=some c343:=by kernel_rfl
theorem eo_c344:cFunc Tryz.prog eoNames.ψ Tryz.f27 [[0,1],[0,1,5],[0,1,5],[0,1,5,9],[0,1,5,17],[4],[0,1,5],[4]]=some c344:=by kernel_rfl
theorem eo_c345:cFunc Tryz.prog eoNames.ψ Tryz.f28 [[1,2,4,5,6,9],[1,2,4,5,6,9,18],[12],[1,2,4,5,6,9,13],[1,2,4,5,6,9,13],[1,2,4,5,6,9,13,30],[1,2,4,5,6,9,13,50],[12],[1,2,4,5,6,9,13],[12]]=some c345:=by kernel_rfl
theorem eo_c346:cFunc Tryz.prog eoNames.ψ Tryz.f29 [[1],[1,3],[1,3,4],[1,3,4],[1,3,4,9],[1,3,4],[1,3,4],[2]]=some c346:=by kernel_rfl
theorem eo_c22:cFunc Tryz.prog eoNames.ψ Tryz.f30 [[2,3],[2,3],[2,3,6],[3,6],[6,16],[4,5],[6],[4,5]]=some c22:=by kernel_rfl
theorem eo_c40:cFunc Tryz.prog eoNames.ψ Tryz.f31 [[2,3],[2,3,38],[4],[3,5],[3,5,48],[4],[5,50,51,52],[5,50,51,52],[5,50,51,52,53],[5,6,7,50,51,52],[5,6,7,50,51,52,71],[4],[5,6,8,50,51,52],[5,50,51,52,81],[4],[5,50,51,52],[4]]=some c40:=by kernel_rfl
theorem eo_c79:cFunc Tryz.prog eoNames.ψ Tryz.f32 [[2,3],[4]]=some c79:=by kernel_rfl
theorem eo_c349:cFunc Tryz.prog eoNames.ψ Tryz.f33 [[0,1],[0,1,5],[0,1,5],[0,1,5,19],[0,1,5,6,7],[0,1,5,8],[0,1,5,8,9],[0,1,5,8,9],[0,1,5,8,9,62],[0,1,5,8,9,68],[4],[0,1,5,8,9],[0,1,5],[4]]=some c349:=by kernel_rfl
theorem eo_c350:cFunc Tryz.prog eoNames.ψ Tryz.f34 [[0,1],[0,1,5],[0,1,5],[0,1,5,16],[0,1,5,6],[0,1,5,6,29],[4],[0,1,5],[4]]=some c350:=by kernel_rfl
theorem eo_c351:cFunc Tryz.prog eoNames.ψ Tryz.f35 [[0,1],[0,1,5],[4],[9],[4],[4]]=some c351:=by kernel_rfl
theorem eo_c85:cFunc Tryz.prog eoNames.ψ Tryz.f36 [[0],[2]]=some c85:=by kernel_rfl
theorem eo_c347:cFunc Tryz.prog eoNames.ψ Tryz.f41 [[1],[2]]=some c347:=by kernel_rfl
theorem eo_c348:cFunc Tryz.prog eoNames.ψ Tryz.f42 [[1,2,3,7],[1,2,3,7,19],[6,7,8],[1,2,3,7,9],[1,2,3,7,9,10],[1,2,3,7,9,10,11],[1,2,3,7,9,10,11],[1,2,3,7,9,10,11,12,13],[1,2,3,7,9,10,11,12,32],[6,7,8],[1,2,3,7,9,10,11,12,14],[1,2,3,7,9,10,11,12,14,42],[1,2,3,7,9,10,11,12,46],[6,7,8],[1,2,3,7,9,10,11,12,14],[1,2,3,7,9,10,11,12,14],[1,2,3,7,9,10,11,14,15],[1,2,3,7,9,10,11,14,15],[1,2,3,7,9,10,11,14],[1,2,3,7,9,10,11]]=some c348:=by kernel_rfl
theorem eo_c100:cFunc Tryz.prog eoNames.ψ Tryz.f43 [[1],[2]]=some c100:=by kernel_rfl
theorem eo_c149:cFunc Tryz.prog eoNames.ψ Tryz.f44 [[1,2,3,6,7],[1,2,3,6,7],[1,2,3,6,7],[1,2,3,6,7,9,10],[1,2,3,6,7,9,25],[6,7,8],[1,2,3,6,7,9,11],[1,2,3,6,7,9,11,30],[1,2,3,6,7,9,11],[1,2,3,6,7,11,12,13],[1,2,3,6,7,11,12,41],[1,2,3,6,7,11,12,44],[6,7,8],[1,2,3,6,7,11,12],[1,2,3,6,7,11,12],[1,2,3,6,7,11],[1,2,3,6,7]]=some c149:=by kernel_rfl
theorem eo_c30:cFunc Tryz.prog eoNames.ψ Tryz.f55 [[1],[3],[3,8,9],[3,8,9],[3,8,9,10],[3,4,8,9],[3,8,9,17],[2],[3,8,9],[2]]=some c30:=by kernel_rfl
theorem eo_c280:cFunc Tryz.prog eoNames.ψ Tryz.f58 [[1],[1,3],[1,3,4],[1,3,4],[1,3,4,15],[1,3,4],[1,3,4],[1,3,5],[1,3,5],[1,3,5,30],[1,3,5,6],[1,3,5,6],[1,3,5,6,40],[1,3,5,6],[1,3,5,6],[1,3,5],[1,3,7],[1,3,7],[1,3,7,59],[1,3,7,8],[1,3,7,8],[1,3,7,8,70],[1,3,7,8],[1,3,7,8],[1,3,7],[3,9],[3,9,10],[3,9,10],[3,9,10,86],[3,9,10,91],[3,9,10],[3,9,10],[2]]=some c280:=by kernel_rfl
theorem eo_c281:cFunc Tryz.prog eoNames.ψ Tryz.f59 [[1,2],[1,2,5],[1,2,5],[1,2,5,10],[1,2,5,20],[4],[1,2,5],[4]]=some c281:=by kernel_rfl
theorem eo_c282:cFunc Tryz.prog eoNames.ψ Tryz.f60 [[0,1],[0,1],[0,1,8],[2],[2]]=some c282:=by kernel_rfl
theorem eo_c295:cFunc Tryz.prog eoNames.ψ Tryz.f61 [[1,3,5,6],[1,3,5,6,28],[6,7],[6,8],[6,8,46],[6,7],[6,7]]=some c295:=by kernel_rfl
theorem eo_c352:cFunc Tryz.prog eoNames.ψ Tryz.f62 [[2,3,4,5],[2,3,4,5,9],[2,3,4,5,9,22],[2,3,4,5,9,10],[2,3,4,5,9,10,11],[2,3,4,5,9,10,11],[2,3,4,5,9,10,11,28],[2,3,4,5,9,10,11,36],[2,3,4,5,9,10,11],[2,3,4,5,9,10,11],[8],[2,3,4,5,9,12],[2,3,4,5,9,12,61],[8],[2,3,4,5,9,12,13],[2,3,4,5,9,12,13],[2,3,4,5,9,12,13,79],[2,3,4,5,9,12,13,14],[2,3,4,5,9,12,13,107],[2,3,4,5,9,12,13,122],[8],[2,3,4,5,9,12,13],[8]]=some c352:=by kernel_rfl
theorem eo_c31:cFunc Tryz.prog eoNames.ψ Tryz.f63 [[1,2,3],[1,2,3,12],[3,6],[3,6,23,24,25],[3,6,23,24,25],[3,6,23,24,25,26],[3,6,7,8,23,24,25],[3,6,23,24,25],[3,6,23,24,25],[3,6,48,49],[3,6,48,49],[3,6,48,49,50],[3,6,9,48,49],[3,6,9,48,49],[3,6,48,49],[3,6,48,49],[]]=some c31:=by kernel_rfl
theorem eo_c37:cFunc Tryz.prog eoNames.ψ Tryz.f64 [[0,1,2,3,4],[7]]=some c37:=by kernel_rfl
theorem eo_c33:cFunc Tryz.prog eoNames.ψ Tryz.f65 [[5,6,7,8,9],[6,7,8,9,11],[6,7,9,11,12],[6,7,9,11,13],[10]]=some c33:=by kernel_rfl
theorem eo_c38:cFunc Tryz.prog eoNames.ψ Tryz.f66 [[0,2],[2]]=some c38:=by kernel_rfl
theorem eo_c39:cFunc Tryz.prog eoNames.ψ Tryz.f67 [[1,2,3],[1,2],[4]]=some c39:=by kernel_rfl
theorem eo_c36:cFunc Tryz.prog eoNames.ψ Tryz.f68 [[]]=some c36:=by kernel_rfl
theorem eo_c59:cFunc Tryz.prog eoNames.ψ Tryz.f69 [[1],[1,37],[2],[1,39,40,41],[1,39,40,41],[1,39,40,41,42],[1,3,4,39,40,41],[1,39,40,41,63],[2],[1,39,40,41],[1,5],[5,67,68,69],[5,67,68,69],[5,67,68,69,70],[5,7,67,68,69],[5,67,68,69,85],[2],[5,67,68,69],[2]]=some c59:=by kernel_rfl
theorem eo_c80:cFunc Tryz.prog eoNames.ψ Tryz.f70 [[1,2],[1,2,5],[1,2,5,27],[4],[1,2],[1,2,34,35],[1,2,34,35],[1,2,34,35,36],[1,2,6,34,35],[1,2,6,7,34,35],[1,2,6,7,8,34,35],[1,2,6,7,8,34,35],[1,2,6,7,8,34,35,50],[1,2,6,7,8,34,35,55],[1,2,6,7,8,34,35],[1,2,6,7,8,34,35],[1,2,7,9,11,34,35],[1,2,7,34,35,82],[4],[1,2,34,35],[1,2,34,35],[4]]=some c80:=by kernel_rfl
theorem eo_c81:cFunc Tryz.prog eoNames.ψ Tryz.f71 [[1],[1,3],[1,3,12,13,14],[1,3,12,13,14],[1,3,12,13,14,15],[1,3,4,5,12,13,14],[1,3,4,5,6,12,13,14],[1,3,4,5,6,12,13,14,26],[1,3,12,13,14,28],[2],[1,3,4,5,6,12,13,14,42],[2],[1,3,4,5,6,7,12,13,14],[1,3,4,6,12,13,14,64],[2],[1,3,12,13,14],[1,3,12,13,14],[2]]=some c81:=by kernel_rfl
theorem eo_c63:cFunc Tryz.prog eoNames.ψ Tryz.f72 [[1,2],[1,5],[5,12,13,14],[5,12,13,14],[5,12,13,14,15],[5,6,7,12,13,14],[5,6,7,12,13,14,20],[5,12,13,14],[5,12,13,14],[4]]=some c63:=by kernel_rfl
theorem eo_c82:cFunc Tryz.prog eoNames.ψ Tryz.f73 [[0],[3],[3],[2]]=some c82:=by kernel_rfl
theorem eo_c83:cFunc Tryz.prog eoNames.ψ Tryz.f74 [[1],[2]]=some c83:=by kernel_rfl
theorem eo_c84:cFunc Tryz.prog eoNames.ψ Tryz.f75 [[0,1],[0,1,10],[4],[0,1,12,13],[0,1,12,13],[0,1,12,13,14],[0,1,5,12,13],[0,1,12,13,24],[4],[0,1,12,13],[4]]=some c84:=by kernel_rfl
theorem eo_c142:cFunc Tryz.prog eoNames.ψ Tryz.f76 [[0],[0,3],[3,6,7,8],[3,6,7,8],[3,6,7,8,9],[3,5,6,7,8],[3,5,6,7,8,14],[2],[3,6,7,8],[2]]=some c142:=by kernel_rfl
theorem eo_c143:cFunc Tryz.prog eoNames.ψ Tryz.f77 [[0,1,2],[0,1,2,11,12,13],[0,1,2,11,12,13],[0,1,2,11,12,13,14],[0,1,2,7,8,11,12,13],[0,1,2,7,8,11,12,13,21],[6],[0,1,2,8,9,11,12,13],[0,1,2,10,11,12,13],[0,1,2,10,11,12,13,31],[6],[0,1,2,11,12,13],[38],[6],[6]]=some c143:=by kernel_rfl
theorem eo_c144:cFunc Tryz.prog eoNames.ψ Tryz.f78 [[2,3],[4]]=some c144:=by kernel_rfl
theorem eo_c145:cFunc Tryz.prog eoNames.ψ Tryz.f79 [[0,1],[0,1,9,10,11],[0,1,9,10,11],[0,1,9,10,11,12],[0,1,5,6,9,10,11],[0,1,5,6,9,10,11,19],[4],[0,1,6,7,9,10,11],[0,1,8,9,10,11],[0,1,8,9,10,11,28],[4],[0,1,9,10,11],[35],[4],[4]]=some c145:=by kernel_rfl
theorem eo_c146:cFunc Tryz.prog eoNames.ψ Tryz.f80 [[0,1,2],[0,1,2,11,12,13],[0,1,2,11,12,13],[0,1,2,11,12,13,14],[0,1,2,7,8,11,12,13],[0,1,2,7,8,11,12,13,21],[6],[0,1,2,8,9,11,12,13],[0,1,2,10,11,12,13],[0,1,2,10,11,12,13,31],[6],[0,1,2,11,12,13],[38],[6],[6]]=some c146:=by kernel_rfl
theorem eo_c153:cFunc Tryz.prog eoNames.ψ Tryz.f81 [[0],[2]]=some c153:=by kernel_rfl
theorem eo_c298:cFunc Tryz.prog eoNames.ψ Tryz.f92 [[1,2],[4]]=some c298:=by kernel_rfl
theorem eo_c291:cFunc Tryz.prog eoNames.ψ Tryz.f93 [[1,2,4],[1,2,4,8],[4],[4]]=some c291:=by kernel_rfl
theorem eo_c296:cFunc Tryz.prog eoNames.ψ Tryz.f94 [[2,3,4,6],[2,3,4,6,8],[2,3,4,6,8,9],[6],[2,3,4,6,8,18],[6],[2,3,4,6,24],[2,3,4,6,31],[6],[6],[6]]=some c296:=by kernel_rfl
theorem eo_c297:cFunc Tryz.prog eoNames.ψ Tryz.f95 [[1,3,4,6,8],[1,3,4,6,8,9,10],[1,3,4,6,8,9,19],[8],[1,3,4,6,8,9,28],[1,4,6,8],[1,4,6,8],[8]]=some c297:=by kernel_rfl
theorem eo_c60:cFunc Tryz.prog eoNames.ψ Tryz.f96 [[1,2,4],[4]]=some c60:=by kernel_rfl
theorem eo_c113:cFunc Tryz.prog eoNames.ψ Tryz.f97 [[1,3,5,6],[5,6,8],[5,6,8,22],[6,7],[6,9],[6,9,36],[6,7],[6,7]]=some c113:=by kernel_rfl
theorem eo_c114:cFunc Tryz.prog eoNames.ψ Tryz.f98 [[2,3,4,6],[2,3,4,6,9],[2,3,4,6,9,10],[6,7],[2,3,4,6,9,19],[6,7],[2,3,4,6,25],[2,3,4,6,32],[6,7],[6,7],[6,7]]=some c114:=by kernel_rfl
theorem eo_c116:cFunc Tryz.prog eoNames.ψ Tryz.f99 [[1,3,4,6,8],[1,3,4,6,8,9,10],[1,3,4,6,8,9,19],[8],[1,3,4,6,8,9,28],[1,4,6,8],[1,4,6,8],[8]]=some c116:=by kernel_rfl
theorem eo_c102:cFunc Tryz.prog eoNames.ψ Tryz.f111 [[0,1],[4]]=some c102:=by kernel_rfl
theorem eo_c52:cFunc Tryz.prog eoNames.ψ Tryz.f112 [[0,2],[0,2,10],[2],[0,2,3],[0,2,3,15,16,17],[0,2,3,15,16,17],[0,2,3,15,16,17,18],[0,2,3,4,5,15,16,17],[0,2,3,4,5,15,16,17,22,23,24],[0,2,3,4,5,15,16,17,22,23,24],[0,2,3,4,5,15,16,17,22,23,24,25],[0,2,3,4,5,6,7,15,16,17,22,23,24],[0,2,3,4,5,6,15,16,17,22,23,24,55],[0,2,3,4,5,15,16,17,22,23,24],[0,2,3,4,5,15,16,17,22,23,24],[0,2,3,15,16,17],[2]]=some c52:=by kernel_rfl
theorem eo_c56:cFunc Tryz.prog eoNames.ψ Tryz.f114 [[1,2,3,6],[1,2,3,6,14],[3,6],[6]]=some c56:=by kernel_rfl
theorem eo_c57:cFunc Tryz.prog eoNames.ψ Tryz.f120 [[1,2],[1,2,6,7],[1,2,6,7],[1,2,6,7,8],[1,2,3,6,7],[1,2,3,6,7,11,12],[1,2,3,6,7,11,12],[1,2,3,6,7,11,12,13],[1,2,3,4,6,7,11,12],[1,2,3,4,6,7,11,12,20],[1,2,3,6,7,11,12],[1,2,3,6,7,11,12],[1,2,6,7],[2]]=some c57:=by kernel_rfl
theorem eo_c58:cFunc Tryz.prog eoNames.ψ Tryz.f121 [[0,1],[4]]=some c58:=by kernel_rfl
theorem eo_c353:cFunc Tryz.prog eoNames.ψ Tryz.f123 [[0,2],[0,2,3],[0,2,3,9],[2],[0,2,3],[0,2,3,4],[0,2,3,4],[0,2,3,4,17],[0,2,3,4,5],[0,2,3,4,5],[0,2,3,4,5,23],[0,2,3,4,5,73],[0,2,3,4,5],[0,2,3,4,5],[0,2,3,4],[2]]=some c353:=by kernel_rfl
theorem eo_c354:cFunc Tryz.prog eoNames.ψ Tryz.f124 [[]]=some c354:=by kernel_rfl
theorem eo_c355:cFunc Tryz.prog eoNames.ψ Tryz.f125 [[1],[1,3],[1,3,4],[1,3,4],[1,3,4,10],[1,3,4,15],[2],[1,3,4],[2]]=some c355:=by kernel_rfl
theorem eo_c356:cFunc Tryz.prog eoNames.ψ Tryz.f126 [[2,3,4,5],[2,3,4,5,9],[2,3,4,5,9,19],[2,3],[8],[2,3,4,5,9,10],[2,3,4,5,9,10,11],[2,3,4,5,9,10,11],[2,3,4,5,9,10,11,37],[2,3,4,5,9,10,11,60],[2,3,4,5,9,10,11],[2,3,4,5,9,10,11],[8]]=some c356:=by kernel_rfl
theorem eo_c61:cFunc Tryz.prog eoNames.ψ Tryz.f127 [[0,1,4],[0,1,4],[0,1,4,5,6],[0,1,4,5,6],[0,1,4,5,32],[0,1,4,5,7,8],[0,1,4,5,7,42],[],[0,1,4],[0,1,4]]=some c61:=by kernel_rfl
theorem eo_c62:cFunc Tryz.prog eoNames.ψ Tryz.f128 [[0],[0,3],[0,3,4],[0,3,4],[0,3,4,21,22,23],[0,3,4,21,22,23],[0,3,4,21,22,23,24],[0,3,4,5,6,21,22,23],[0,3,4,5,6,21,22,23,30],[0,3,4,5,6,21,22,23],[0,3,4,5,6,7,21,22,23],[0,3,4,5,6,7,21,22,23],[0,3,4,5,6,7,21,22,23,39],[0,3,4,5,6,7,21,22,23,53],[0,3,4,5,6,7,8,21,22,23],[0,3,4,5,6,7,8,21,22,23],[0,3,4,5,6,7,8,21,22,23],[0,3,4,5,6,7,8,21,22,23,77],[0,3,4,5,6,7,21,22,23,79],[2],[0,3,4,5,6,7,21,22,23],[0,3,4,5,21,22,23,86],[2],[0,3,4,21,22,23],[0,3,4,21,22,23],[2]]=some c62:=by kernel_rfl
theorem eo_c64:cFunc Tryz.prog eoNames.ψ Tryz.f129 [[1,2],[1,2,3],[1,2,3,10,11],[1,2,3,10,11],[1,2,3,10,11,12],[1,2,3,4,10,11],[1,2,3,4,5,10,11],[1,2,3,4,5,10,11],[1,2,3,4,5,10,11,19],[1,2,3,4,5,10,11],[1,2,3,4,5,10,11],[1,2,3,10,11],[2]]=some c64:=by kernel_rfl
theorem eo_c65:cFunc Tryz.prog eoNames.ψ Tryz.f130 [[0,1,2,3],[6]]=some c65:=by kernel_rfl
theorem eo_c66:cFunc Tryz.prog eoNames.ψ Tryz.f131 [[3,4,5],[3,4,5,7],[3,4,5,7,8],[3,8],[6]]=some c66:=by kernel_rfl
theorem eo_c53:cFunc Tryz.prog eoNames.ψ Tryz.f132 [[1,2],[1,2,8],[4],[4]]=some c53:=by kernel_rfl
theorem eo_c67:cFunc Tryz.prog eoNames.ψ Tryz.f133 [[3,4,5],[3,4,5,7],[3,4,5,7,8],[8],[6]]=some c67:=by kernel_rfl
theorem eo_c68:cFunc Tryz.prog eoNames.ψ Tryz.f134 [[0,1,2,3],[5]]=some c68:=by kernel_rfl
theorem eo_c69:cFunc Tryz.prog eoNames.ψ Tryz.f135 [[0],[0,4],[2],[2]]=some c69:=by kernel_rfl
theorem eo_c70:cFunc Tryz.prog eoNames.ψ Tryz.f136 [[0],[0,4],[2],[2]]=some c70:=by kernel_rfl
theorem eo_c78:cFunc Tryz.prog eoNames.ψ Tryz.f137 [[0,1,4],[]]=some c78:=by kernel_rfl
theorem eo_c104:cFunc Tryz.prog eoNames.ψ Tryz.f138 [[1],[1,3],[3,7,8,9],[3,7,8,9],[3,7,8,9,10],[3,5,7,8,9],[3,7,8,9],[3,7,8,9],[2]]=some c104:=by kernel_rfl
theorem eo_c105:cFunc Tryz.prog eoNames.ψ Tryz.f139 [[0],[2]]=some c105:=by kernel_rfl
theorem eo_c106:cFunc Tryz.prog eoNames.ψ Tryz.f140 [[0,1],[3]]=some c106:=by kernel_rfl
theorem eo_c107:cFunc Tryz.prog eoNames.ψ Tryz.f141 [[0],[0,5,6,7],[0,5,6,7],[0,5,6,7,8],[0,3,4,5,6,7],[0,5,6,7,29],[2],[0,5,6,7],[2]]=some c107:=by kernel_rfl
theorem eo_c108:cFunc Tryz.prog eoNames.ψ Tryz.f142 [[0,1],[4]]=some c108:=by kernel_rfl
theorem eo_c109:cFunc Tryz.prog eoNames.ψ Tryz.f143 [[1,2],[3]]=some c109:=by kernel_rfl
theorem eo_c110:cFunc Tryz.prog eoNames.ψ Tryz.f144 [[1,2],[1,2,5],[1,2,5,6],[1,2,5,6,11],[1,2,5,6,11,12],[1,2,5],[2,5,6],[1,2,5,6,11,29],[1,2,5],[2,5,6],[1,2,5,6,11,46],[1,2,5,11,48],[1,2,5],[2,5,6],[2,5,11,81],[2,5],[2,5,6],[2,5,129],[2,5],[2,5,6],[4],[4]]=some c110:=by kernel_rfl
theorem eo_c147:cFunc Tryz.prog eoNames.ψ Tryz.f145 [[1],[1,3],[3,7,8,9],[3,7,8,9],[3,7,8,9,10],[3,4,5,7,8,9],[3,7,8,9],[3,7,8,9],[2]]=some c147:=by kernel_rfl
theorem eo_c148:cFunc Tryz.prog eoNames.ψ Tryz.f146 [[0,1],[4]]=some c148:=by kernel_rfl
theorem eo_c101:cFunc Tryz.prog eoNames.ψ Tryz.f147 [[1],[2]]=some c101:=by kernel_rfl
theorem eo_c150:cFunc Tryz.prog eoNames.ψ Tryz.f148 [[0],[2]]=some c150:=by kernel_rfl
theorem eo_c151:cFunc Tryz.prog eoNames.ψ Tryz.f149 [[0,2],[]]=some c151:=by kernel_rfl
theorem eo_c152:cFunc Tryz.prog eoNames.ψ Tryz.f150 [[0,5,6,7],[0,5,6,7],[0,5,6,7,8],[0,4,5,6,7],[0,5,6,7,14],[0,5,6,7]]=some c152:=by kernel_rfl
theorem eo_c197:cFunc Tryz.prog eoNames.ψ Tryz.f151 [[0,1],[0,1,5],[0,1,5,6],[0,1,6,11],[12],[4],[4],[0,1,13],[4],[0,1,16],[4],[19],[4],[4]]=some c197:=by kernel_rfl
theorem eo_c198:cFunc Tryz.prog eoNames.ψ Tryz.f152 [[0,1],[0,1,5],[0,1,5,6],[0,1,6,11],[12],[4],[4],[0,1,13],[4],[0,1,16],[4],[19],[4],[4]]=some c198:=by kernel_rfl
theorem eo_c141:cFunc Tryz.prog eoNames.ψ Tryz.f160 [[0],[2],[2]]=some c141:=by kernel_rfl
theorem eo_c299:cFunc Tryz.prog eoNames.ψ Tryz.f163 [[1,3,5,6],[1,3,5,6],[1,3,5,6,17],[1,3,5,6,7],[1,3,5,6,7,28],[1,3,5,6,7,28,30],[1,3,5,6,7,8],[1,3,5,6,7,8,38],[1,3,5,6,7,8],[1,3,5,6],[1,3,5,6],[1,3,5,6,7,59],[1,3,5,6,7,69],[1,3,5,6],[1,3,5,6],[6],[6]]=some c299:=by kernel_rfl
theorem eo_c300:cFunc Tryz.prog eoNames.ψ Tryz.f164 [[2,3],[2,3,12],[4],[4]]=some c300:=by kernel_rfl
theorem eo_c111:cFunc Tryz.prog eoNames.ψ Tryz.f165 [[0,3,4],[0,3,4],[0,3,4,19],[0,3,4,5],[0,3,4,5,6,7],[0,3,4,5,6,7,34],[0,3,4,5,6,7,34,36],[0,3,4,5,6,8,9],[0,3,4,5,6,8,46],[0,3,4,5,6],[0,3,4],[0,3,4,5,6,7,52],[0,3,4,5,56],[0,3,4],[4],[0,3,4],[4]]=some c111:=by kernel_rfl
theorem eo_c112:cFunc Tryz.prog eoNames.ψ Tryz.f166 [[1,2],[1,2,13],[4],[4]]=some c112:=by kernel_rfl
theorem eo_c174:cFunc Tryz.prog eoNames.ψ Tryz.f167 [[2,3],[2,3,12],[4],[4]]=some c174:=by kernel_rfl
theorem eo_c176:cFunc Tryz.prog eoNames.ψ Tryz.f168 [[0,1,2,11],[]]=some c176:=by kernel_rfl
theorem eo_c103:cFunc Tryz.prog eoNames.ψ Tryz.f174 [[0],[0,8],[2],[2]]=some c103:=by kernel_rfl
theorem eo_c98:cFunc Tryz.prog eoNames.ψ Tryz.f175 [[1,2],[4]]=some c98:=by kernel_rfl
theorem eo_c357:cFunc Tryz.prog eoNames.ψ Tryz.f178 [[1,2],[1,2,3],[1,2,3],[1,2,3,8],[1,2,3,4],[1,2,3,4],[1,2,3,4,14],[1,2,3,4,19],[1,2,3,4],[1,2,3,4],[1,2,3],[2]]=some c357:=by kernel_rfl
theorem eo_c358:cFunc Tryz.prog eoNames.ψ Tryz.f179 [[0,1,2],[6]]=some c358:=by kernel_rfl
theorem eo_c359:cFunc Tryz.prog eoNames.ψ Tryz.f180 [[0,3],[0,3,5,6],[0,3,5,6],[0,3,5,6,12],[0,3,5,6,7],[0,3,5,6,7,23],[0,3,5,6],[0,3,5,6],[0,3,5,39],[4],[0,3,5],[0,3,5],[0],[4]]=some c359:=by kernel_rfl
theorem eo_c360:cFunc Tryz.prog eoNames.ψ Tryz.f181 [[2,3,4,5,6,7],[2,3,4,5,6,7,17],[12],[2,3,4,5,6,7,13],[2,3,4,5,6,7,13],[2,3,4,5,6,7,13,37],[2,3,4,5,6,7,13,14],[2,3,4,5,6,7,13,65],[12],[2,3,4,5,6,7,13],[12]]=some c360:=by kernel_rfl
theorem eo_c115:cFunc Tryz.prog eoNames.ψ Tryz.f182 [[0,1,3,6],[0,1,3,6,8],[0,1,3,6,8],[0,1,3,6,8],[0,1,6],[0,1,6,46],[]]=some c115:=by kernel_rfl
theorem eo_c117:cFunc Tryz.prog eoNames.ψ Tryz.f183 [[0],[0,4],[2],[2]]=some c117:=by kernel_rfl
theorem eo_c118:cFunc Tryz.prog eoNames.ψ Tryz.f184 [[0,1,2,6],[0,1,2,6,7],[0,1,2,6,7,8],[0,1,6,7],[0,1,6],[0,1],[]]=some c118:=by kernel_rfl
theorem eo_c119:cFunc Tryz.prog eoNames.ψ Tryz.f185 [[0],[0,4],[0,4,5],[0,4,5,6],[0,4,5,6,33,34,35],[0,4,5,6,33,34,35],[0,4,5,6,33,34,35,36],[0,4,5,6,7,8,33,34,35],[0,4,5,6,8,33,34,35],[0,4,5,6,33,34,35],[0,4,5,6,33,34,35],[0,4,5,6,53,54,55],[0,4,5,6,53,54,55],[0,4,5,6,53,54,55,56],[0,4,5,6,10,53,54,55],[0,4,5,6,53,54,55,60,61,62],[0,4,5,6,53,54,55,60,61,62],[0,4,5,6,53,54,55,60,61,62,63],[0,4,5,6,12,53,54,55,60,61,62],[0,4,5,6,12,13,53,54,55,60,61,62],[0,4,5,6,12,13,53,54,55,60,61,62,67],[0,4,5,6,12,13,53,54,55,60,61,62],[0,4,5,6,13,14,53,54,55,60,61,62],[0,4,5,6,13,14,53,54,55,60,61,62,85],[0,4,5,6,13,53,54,55,60,61,62],[0,4,5,6,53,54,55,60,61,62],[0,4,5,6,53,54,55,60,61,62],[0,4,5,6,53,54,55],[2,3]]=some c119:=by kernel_rfl
theorem eo_c120:cFunc Tryz.prog eoNames.ψ Tryz.f186 [[0,1,5],[0,1,5,12,13,14],[0,1,5,12,13,14],[0,1,5,12,13,14,15],[0,1,5,7,8,12,13,14],[0,1,5,7,8,12,13,14,26],[0,1,5,12,13,14,40],[6],[0,1,5,12,13,14],[6]]=some c120:=by kernel_rfl
theorem eo_c121:cFunc Tryz.prog eoNames.ψ Tryz.f188 [[0,1,2,3,4,5],[0,1,2,3,4,5,15],[7],[0,1,2,4,5,19,20,21],[0,1,2,4,5,19,20,21],[0,1,2,4,5,19,20,21,22],[0,1,2,4,5,9,19,20,21],[0,1,2,4,5,9,19,20,21,38],[0,1,2,4,5,9,19,20,21],[0,1,2,4,5,10,19,20,21],[0,1,2,4,5,10,19,20,21],[0,1,2,4,5,19,20,21,54],[7],[0,1,2,4,5,19,20,21],[7]]=some c121:=by kernel_rfl
theorem eo_c122:cFunc Tryz.prog eoNames.ψ Tryz.f189 [[0],[0,3],[3,6,7,8],[3,6,7,8],[3,6,7,8,9],[3,5,6,7,8],[3,6,7,8],[3,6,7,8],[2]]=some c122:=by kernel_rfl
theorem eo_c123:cFunc Tryz.prog eoNames.ψ Tryz.f190 [[1,2,3,4,5,6],[1,2,3,4,5,6,13],[2,3,8],[3,8,16,17,18],[3,8,16,17,18],[3,8,16,17,18,19],[3,8,9,10,16,17,18],[3,8,16,17,18],[3,8,16,17,18],[7],[7]]=some c123:=by kernel_rfl
theorem eo_c124:cFunc Tryz.prog eoNames.ψ Tryz.f191 [[0,1,2,3],[2,3],[5]]=some c124:=by kernel_rfl
theorem eo_c140:cFunc Tryz.prog eoNames.ψ Tryz.f192 [[0,1,2,3,4,10],[0,1,2,3,4,10,11],[0,1,2,3,4,10,11],[0,1,2,3,4,10,11,12],[0,1,2,3,4,10,11,12,25],[],[0,1,2,3,4,10,11,12,32],[],[0,1,2,3,4,10,11,12,39],[0,1,2,3,4,10,11,12],[0,1,2,3,4,10,11,12],[0,1,2,3,4,10,11,12,13,14],[0,1,2,3,4,10,11,12,13,14,56],[0,1,2,3,4,10,11,12,13],[0,1,2,3,4,10,11,12,13],[0,1,2,3,4,10,11,12,13,14],[0,1,2,3,4,10,11,12,13,75],[0,1,2,3,4,10,11,12,13,80],[0,1,2,3,4,10,11,12,13,97],[0,2,3,4,10,11,15],[0,1,2,3,4,10,11],[0,1,2,3,4,12,16,17],[0,1,2,3,4,11,12,16],[0,1,2,3,4,11,12,16,18,19],[0,1,2,3,4,11,16,18,19,20],[0,1,2,3,4,11,16,18,19,20,125],[0,1,2,3,4,10,11,16],[0,2,3,4,10,11,16],[0,1,2,3,4,10,11],[0,1,2,3,4,10,11,16],[0,1,3,4,10,11,16],[0,1,2,3,4,10,11]]=some c140:=by kernel_rfl
theorem eo_c171:cFunc Tryz.prog eoNames.ψ Tryz.f193 [[0,1],[0,1,7,8],[0,1,7,8],[0,1,7,8,9],[0,1,5,7,8],[0,1,5,7,8,16],[4],[0,1,7,8],[4]]=some c171:=by kernel_rfl
theorem eo_c172:cFunc Tryz.prog eoNames.ψ Tryz.f194 [[1],[2]]=some c172:=by kernel_rfl
theorem eo_c173:cFunc Tryz.prog eoNames.ψ Tryz.f195 [[0],[2]]=some c173:=by kernel_rfl
theorem eo_c199:cFunc Tryz.prog eoNames.ψ Tryz.f196 [[0,1],[0,1,10],[4],[0,1,12,13],[0,1,12,13],[0,1,12,13,14],[0,1,5,12,13],[0,1,12,13,24],[4],[0,1,12,13],[4]]=some c199:=by kernel_rfl
theorem eo_c201:cFunc Tryz.prog eoNames.ψ Tryz.f198 [[0,1,2,3,8],[0,1,2,3,8,9],[0,1,2,3,8,9],[0,1,2,3,8,9,10],[0,1,2,3,8,9,10,23],[],[0,1,2,3,8,9,10,29],[],[0,1,2,3,8,9,10,35],[0,1,2,3,8,9,10],[0,1,2,3,8,9,10],[0,1,2,3,8,9,10,11,12],[0,1,2,3,8,9,10,11,12,50],[0,1,2,3,8,9,10,11],[0,1,2,3,8,9,10,11],[0,1,2,3,8,9,10,11,12],[0,1,2,3,8,9,10,11,68],[0,1,2,3,8,9,10,11,72],[0,1,2,3,8,9,10,11,87],[0,2,3,8,9,13],[0,1,2,3,8,9],[0,1,2,3,10,14,15],[0,1,2,3,9,10,14],[0,1,2,3,9,10,14,16,17],[0,1,2,3,9,14,16,17,18],[0,1,2,3,9,14,16,17,18,113],[0,1,2,3,8,9,14],[0,2,3,8,9,14],[0,1,2,3,8,9],[0,1,2,3,8,9,14],[0,1,3,8,9,14],[0,1,2,3,8,9]]=some c201:=by kernel_rfl
theorem eo_c229:cFunc Tryz.prog eoNames.ψ Tryz.f199 [[0],[2]]=some c229:=by kernel_rfl
theorem eo_c230:cFunc Tryz.prog eoNames.ψ Tryz.f200 [[0],[2]]=some c230:=by kernel_rfl
theorem eo_c196:cFunc Tryz.prog eoNames.ψ Tryz.f202 [[0,2],[0,2,4],[0],[0,2],[0,2,8],[0,2],[0,2],[0,2,14],[0,2],[0,2],[2]]=some c196:=by kernel_rfl
theorem eo_c195:cFunc Tryz.prog eoNames.ψ Tryz.f216 [[0,2],[0,2,4],[0],[0,2],[0,2,8],[0,2],[0,2],[2]]=some c195:=by kernel_rfl
theorem eo_c301:cFunc Tryz.prog eoNames.ψ Tryz.f217 [[0,1,2],[0,1,2,8],[0,1,2,8],[1,2,8,13],[1,2,8,13,14],[6,7],[1,2,8,13,22],[6,7],[1,2,8,13,30],[6,7],[1,2,8,13,38],[6,7],[1,2,8,13,43],[6,7],[1,2,8,13,48],[6,7],[1,2,8,13,53],[6,7],[1,2,8,13,60],[6,7],[1,2,13,65],[9],[1,2,13,70],[9],[1,2,75],[9],[6,7],[80],[6,7],[6,7]]=some c301:=by kernel_rfl
theorem eo_c175:cFunc Tryz.prog eoNames.ψ Tryz.f218 [[0,1,2],[0,1,2,8],[1,2,8,12],[1,2,8,12,13],[6,7],[1,2,8,12,18],[6,7],[1,2,8,12,23],[6,7],[1,2,8,12,28],[6,7],[1,2,8,12,33],[6,7],[1,2,8,12,38],[6,7],[1,2,8,12,43],[6,7],[1,2,8,12,48],[6,7],[1,2,12,53],[6,7],[1,2,12,59],[6,7],[1,2,65],[6,7],[6,7]]=some c175:=by kernel_rfl
theorem eo_c177:cFunc Tryz.prog eoNames.ψ Tryz.f219 [[0],[2]]=some c177:=by kernel_rfl
theorem eo_c178:cFunc Tryz.prog eoNames.ψ Tryz.f220 [[0],[2]]=some c178:=by kernel_rfl
theorem eo_c179:cFunc Tryz.prog eoNames.ψ Tryz.f221 [[0],[2]]=some c179:=by kernel_rfl
theorem eo_c180:cFunc Tryz.prog eoNames.ψ Tryz.f222 [[0,1],[0,1,10],[0,1],[0,5,6],[0,6,26],[0,6],[0,7],[7,8],[7,8],[7,8,37],[7,8],[4]]=some c180:=by kernel_rfl
theorem eo_c181:cFunc Tryz.prog eoNames.ψ Tryz.f223 [[1,2],[3]]=some c181:=by kernel_rfl
theorem eo_c187:cFunc Tryz.prog eoNames.ψ Tryz.f225 [[0,1,2,3,8],[0,1,2,3,8],[0,1,2,3,8,14],[0,1,2,3,8,9],[0,1,2,3,8,9],[0,1,2,3,8,9,34],[0,1,2,3,8,9],[0,1,2,3,8,9],[0,1,2,3,8]]=some c187:=by kernel_rfl
theorem eo_c231:cFunc Tryz.prog eoNames.ψ Tryz.f233 [[0,1,2,6],[0,1,2,6],[0,1,2,6,12],[0,1,2,6,7],[0,1,2,6,7],[0,1,2,6,7,30],[0,1,2,6,7],[0,1,2,6,7],[0,1,2,6]]=some c231:=by kernel_rfl
theorem eo_c237:cFunc Tryz.prog eoNames.ψ Tryz.f239 [[0,1],[4]]=some c237:=by kernel_rfl
theorem eo_c222:cFunc Tryz.prog eoNames.ψ Tryz.f248 [[0],[3],[2],[2]]=some c222:=by kernel_rfl
theorem eo_c223:cFunc Tryz.prog eoNames.ψ Tryz.f249 [[0,1],[6,7],[4,5],[8,9],[4,5]]=some c223:=by kernel_rfl
theorem eo_c249:cFunc Tryz.prog eoNames.ψ Tryz.f257 [[0,1],[6],[4,5]]=some c249:=by kernel_rfl
theorem eo_c250:cFunc Tryz.prog eoNames.ψ Tryz.f258 [[0,1],[0,1,6],[0,1,6,7],[0,1,6,7,8],[0,1,6,7,8,9],[0,1,6,7,8,9,10],[0,1,6,7,9,11],[0,1,6,7,9,11,12],[0,1,6,7,9,12,13],[0,1,7,9,12,13],[0,1,4],[4,5]]=some c250:=by kernel_rfl
theorem eoKnown:Known Tryz.prog eoNames eoG where
  ok:=by kernel_rfl
  calls:=by
    intro x hx
    simp only [eoNames,List.mem_cons,List.not_mem_nil,or_false] at hx
    rcases hx with rfl | rfl | rfl | rfl | rfl | rfl | rfl | rfl | rfl | rfl | rfl | rfl | rfl | rfl | rfl | rfl | rfl | rfl | rfl | rfl | rfl | rfl | rfl | rfl | rfl | rfl | rfl | rfl | rfl | rfl | rfl | rfl | rfl | rfl | rfl | rfl | rfl | rfl | rfl | rfl | rfl | rfl | rfl | rfl | rfl | rfl | rfl | rfl | rfl | rfl | rfl | rfl | rfl | rfl | rfl | rfl | rfl | rfl | rfl | rfl | rfl | rfl | rfl | rfl | rfl | rfl | rfl | rfl | rfl | rfl | rfl | rfl | rfl | rfl | rfl | rfl | rfl | rfl | rfl | rfl | rfl | rfl | rfl | rfl | rfl | rfl | rfl | rfl | rfl | rfl | rfl | rfl | rfl | rfl | rfl | rfl | rfl | rfl | rfl | rfl | rfl | rfl | rfl | rfl | rfl | rfl | rfl | rfl | rfl | rfl | rfl | rfl | rfl | rfl | rfl | rfl | rfl | rfl | rfl | rfl | rfl | rfl | rfl | rfl | rfl | rfl | rfl | rfl | rfl | rfl | rfl | rfl | rfl | rfl | rfl | rfl | rfl | rfl | rfl | rfl | rfl | rfl | rfl | rfl | rfl
    · exact Tryz.call3
    · exact Tryz.call6
    · exact Tryz.call7
    · exact Tryz.call8
    · exact Tryz.call9
    · exact Tryz.call10
    · exact Tryz.call11
    · exact Tryz.call12
    · exact Tryz.call22
    · exact Tryz.call23
    · exact Tryz.call24
    · exact Tryz.call25
    · exact Tryz.call26
    · exact Tryz.call27
    · exact Tryz.call28
    · exact Tryz.call29
    · exact Tryz.call30
    · exact Tryz.call31
    · exact Tryz.call32
    · exact Tryz.call33
    · exact Tryz.call34
    · exact Tryz.call35
    · exact Tryz.call36
    · exact Tryz.call37
    · exact Tryz.call38
    · exact Tryz.call41
    · exact Tryz.call42
    · exact Tryz.call43
    · exact Tryz.call44
    · exact Tryz.call55
    · exact Tryz.call58
    · exact Tryz.call59
    · exact Tryz.call60
    · exact Tryz.call61
    · exact Tryz.call62
    · exact Tryz.call63
    · exact Tryz.call64
    · exact Tryz.call65
    · exact Tryz.call66
    · exact Tryz.call67
    · exact Tryz.call68
    · exact Tryz.call69
    · exact Tryz.call70
    · exact Tryz.call71
    · exact Tryz.call72
    · exact Tryz.call73
    · exact Tryz.call74
    · exact Tryz.call75
    · exact Tryz.call76
    · exact Tryz.call77
    · exact Tryz.call78
    · exact Tryz.call79
    · exact Tryz.call80
    · exact Tryz.call81
    · exact Tryz.call82
    · exact Tryz.call92
    · exact Tryz.call93
    · exact Tryz.call94
    · exact Tryz.call95
    · exact Tryz.call96
    · exact Tryz.call97
    · exact Tryz.call98
    · exact Tryz.call99
    · exact Tryz.call111
    · exact Tryz.call112
    · exact Tryz.call114
    · exact Tryz.call120
    · exact Tryz.call121
    · exact Tryz.call123
    · exact Tryz.call124
    · exact Tryz.call125
    · exact Tryz.call126
    · exact Tryz.call127
    · exact Tryz.call128
    · exact Tryz.call129
    · exact Tryz.call130
    · exact Tryz.call131
    · exact Tryz.call132
    · exact Tryz.call133
    · exact Tryz.call134
    · exact Tryz.call135
    · exact Tryz.call136
    · exact Tryz.call137
    · exact Tryz.call138
    · exact Tryz.call139
    · exact Tryz.call140
    · exact Tryz.call141
    · exact Tryz.call142
    · exact Tryz.call143
    · exact Tryz.call144
    · exact Tryz.call145
    · exact Tryz.call146
    · exact Tryz.call147
    · exact Tryz.call148
    · exact Tryz.call149
    · exact Tryz.call150
    · exact Tryz.call151
    · exact Tryz.call152
    · exact Tryz.call160
    · exact Tryz.call163
    · exact Tryz.call164
    · exact Tryz.call165
    · exact Tryz.call166
    · exact Tryz.call167
    · exact Tryz.call168
    · exact Tryz.call174
    · exact Tryz.call175
    · exact Tryz.call178
    · exact Tryz.call179
    · exact Tryz.call180
    · exact Tryz.call181
    · exact Tryz.call182
    · exact Tryz.call183
    · exact Tryz.call184
    · exact Tryz.call185
    · exact Tryz.call186
    · exact Tryz.call188
    · exact Tryz.call189
    · exact Tryz.call190
    · exact Tryz.call191
    · exact Tryz.call192
    · exact Tryz.call193
    · exact Tryz.call194
    · exact Tryz.call195
    · exact Tryz.call196
    · exact Tryz.call197
    · exact Tryz.call198
    · exact Tryz.call199
    · exact Tryz.call200
    · exact Tryz.call202
    · exact Tryz.call216
    · exact Tryz.call217
    · exact Tryz.call218
    · exact Tryz.call219
    · exact Tryz.call220
    · exact Tryz.call221
    · exact Tryz.call222
    · exact Tryz.call223
    · exact Tryz.call225
    · exact Tryz.call233
    · exact Tryz.call239
    · exact Tryz.call248
    · exact Tryz.call249
    · exact Tryz.call257
    · exact Tryz.call258
  code:=by
    intro x hx
    simp only [eoNames,List.mem_cons,List.not_mem_nil,or_false] at hx
    rcases hx with rfl | rfl | rfl | rfl | rfl | rfl | rfl | rfl | rfl | rfl | rfl | rfl | rfl | rfl | rfl | rfl | rfl | rfl | rfl | rfl | rfl | rfl | rfl | rfl | rfl | rfl | rfl | rfl | rfl | rfl | rfl | rfl | rfl | rfl | rfl | rfl | rfl | rfl | rfl | rfl | rfl | rfl | rfl | rfl | rfl | rfl | rfl | rfl | rfl | rfl | rfl | rfl | rfl | rfl | rfl | rfl | rfl | rfl | rfl | rfl | rfl | rfl | rfl | rfl | rfl | rfl | rfl | rfl | rfl | rfl | rfl | rfl | rfl | rfl | rfl | rfl | rfl | rfl | rfl | rfl | rfl | rfl | rfl | rfl | rfl | rfl | rfl | rfl | rfl | rfl | rfl | rfl | rfl | rfl | rfl | rfl | rfl | rfl | rfl | rfl | rfl | rfl | rfl | rfl | rfl | rfl | rfl | rfl | rfl | rfl | rfl | rfl | rfl | rfl | rfl | rfl | rfl | rfl | rfl | rfl | rfl | rfl | rfl | rfl | rfl | rfl | rfl | rfl | rfl | rfl | rfl | rfl | rfl | rfl | rfl | rfl | rfl | rfl | rfl | rfl | rfl | rfl | rfl | rfl | rfl
    · exact .inl ⟨_,_,Tryz.func3,eo_c334⟩
    · exact .inl ⟨_,_,Tryz.func6,eo_c270⟩
    · exact .inl ⟨_,_,Tryz.func7,eo_c335⟩
    · exact .inl ⟨_,_,Tryz.func8,eo_c23⟩
    · exact .inl ⟨_,_,Tryz.func9,eo_c339⟩
    · exact .inl ⟨_,_,Tryz.func10,eo_c279⟩
    · exact .inl ⟨_,_,Tryz.func11,eo_c340⟩
    · exact .inl ⟨_,_,Tryz.func12,eo_c41⟩
    · exact .inl ⟨_,_,Tryz.func22,eo_c274⟩
    · exact .inl ⟨_,_,Tryz.func23,eo_c275⟩
    · exact .inl ⟨_,_,Tryz.func24,eo_c341⟩
    · exact .inl ⟨_,_,Tryz.func25,eo_c342⟩
    · exact .inl ⟨_,_,Tryz.func26,eo_c343⟩
    · exact .inl ⟨_,_,Tryz.func27,eo_c344⟩
    · exact .inl ⟨_,_,Tryz.func28,eo_c345⟩
    · exact .inl ⟨_,_,Tryz.func29,eo_c346⟩
    · exact .inl ⟨_,_,Tryz.func30,eo_c22⟩
    · exact .inl ⟨_,_,Tryz.func31,eo_c40⟩
    · exact .inl ⟨_,_,Tryz.func32,eo_c79⟩
    · exact .inl ⟨_,_,Tryz.func33,eo_c349⟩
    · exact .inl ⟨_,_,Tryz.func34,eo_c350⟩
    · exact .inl ⟨_,_,Tryz.func35,eo_c351⟩
    · exact .inl ⟨_,_,Tryz.func36,eo_c85⟩
    · exact .inr ⟨3,rfl⟩
    · exact .inr ⟨2,rfl⟩
    · exact .inl ⟨_,_,Tryz.func41,eo_c347⟩
    · exact .inl ⟨_,_,Tryz.func42,eo_c348⟩
    · exact .inl ⟨_,_,Tryz.func43,eo_c100⟩
    · exact .inl ⟨_,_,Tryz.func44,eo_c149⟩
    · exact .inl ⟨_,_,Tryz.func55,eo_c30⟩
    · exact .inl ⟨_,_,Tryz.func58,eo_c280⟩
    · exact .inl ⟨_,_,Tryz.func59,eo_c281⟩
    · exact .inl ⟨_,_,Tryz.func60,eo_c282⟩
    · exact .inl ⟨_,_,Tryz.func61,eo_c295⟩
    · exact .inl ⟨_,_,Tryz.func62,eo_c352⟩
    · exact .inl ⟨_,_,Tryz.func63,eo_c31⟩
    · exact .inl ⟨_,_,Tryz.func64,eo_c37⟩
    · exact .inl ⟨_,_,Tryz.func65,eo_c33⟩
    · exact .inl ⟨_,_,Tryz.func66,eo_c38⟩
    · exact .inl ⟨_,_,Tryz.func67,eo_c39⟩
    · exact .inl ⟨_,_,Tryz.func68,eo_c36⟩
    · exact .inl ⟨_,_,Tryz.func69,eo_c59⟩
    · exact .inl ⟨_,_,Tryz.func70,eo_c80⟩
    · exact .inl ⟨_,_,Tryz.func71,eo_c81⟩
    · exact .inl ⟨_,_,Tryz.func72,eo_c63⟩
    · exact .inl ⟨_,_,Tryz.func73,eo_c82⟩
    · exact .inl ⟨_,_,Tryz.func74,eo_c83⟩
    · exact .inl ⟨_,_,Tryz.func75,eo_c84⟩
    · exact .inl ⟨_,_,Tryz.func76,eo_c142⟩
    · exact .inl ⟨_,_,Tryz.func77,eo_c143⟩
    · exact .inl ⟨_,_,Tryz.func78,eo_c144⟩
    · exact .inl ⟨_,_,Tryz.func79,eo_c145⟩
    · exact .inl ⟨_,_,Tryz.func80,eo_c146⟩
    · exact .inl ⟨_,_,Tryz.func81,eo_c153⟩
    · exact .inr ⟨3,rfl⟩
    · exact .inl ⟨_,_,Tryz.func92,eo_c298⟩
    · exact .inl ⟨_,_,Tryz.func93,eo_c291⟩
    · exact .inl ⟨_,_,Tryz.func94,eo_c296⟩
    · exact .inl ⟨_,_,Tryz.func95,eo_c297⟩
    · exact .inl ⟨_,_,Tryz.func96,eo_c60⟩
    · exact .inl ⟨_,_,Tryz.func97,eo_c113⟩
    · exact .inl ⟨_,_,Tryz.func98,eo_c114⟩
    · exact .inl ⟨_,_,Tryz.func99,eo_c116⟩
    · exact .inl ⟨_,_,Tryz.func111,eo_c102⟩
    · exact .inl ⟨_,_,Tryz.func112,eo_c52⟩
    · exact .inl ⟨_,_,Tryz.func114,eo_c56⟩
    · exact .inl ⟨_,_,Tryz.func120,eo_c57⟩
    · exact .inl ⟨_,_,Tryz.func121,eo_c58⟩
    · exact .inl ⟨_,_,Tryz.func123,eo_c353⟩
    · exact .inl ⟨_,_,Tryz.func124,eo_c354⟩
    · exact .inl ⟨_,_,Tryz.func125,eo_c355⟩
    · exact .inl ⟨_,_,Tryz.func126,eo_c356⟩
    · exact .inl ⟨_,_,Tryz.func127,eo_c61⟩
    · exact .inl ⟨_,_,Tryz.func128,eo_c62⟩
    · exact .inl ⟨_,_,Tryz.func129,eo_c64⟩
    · exact .inl ⟨_,_,Tryz.func130,eo_c65⟩
    · exact .inl ⟨_,_,Tryz.func131,eo_c66⟩
    · exact .inl ⟨_,_,Tryz.func132,eo_c53⟩
    · exact .inl ⟨_,_,Tryz.func133,eo_c67⟩
    · exact .inl ⟨_,_,Tryz.func134,eo_c68⟩
    · exact .inl ⟨_,_,Tryz.func135,eo_c69⟩
    · exact .inl ⟨_,_,Tryz.func136,eo_c70⟩
    · exact .inl ⟨_,_,Tryz.func137,eo_c78⟩
    · exact .inl ⟨_,_,Tryz.func138,eo_c104⟩
    · exact .inl ⟨_,_,Tryz.func139,eo_c105⟩
    · exact .inl ⟨_,_,Tryz.func140,eo_c106⟩
    · exact .inl ⟨_,_,Tryz.func141,eo_c107⟩
    · exact .inl ⟨_,_,Tryz.func142,eo_c108⟩
    · exact .inl ⟨_,_,Tryz.func143,eo_c109⟩
    · exact .inl ⟨_,_,Tryz.func144,eo_c110⟩
    · exact .inl ⟨_,_,Tryz.func145,eo_c147⟩
    · exact .inl ⟨_,_,Tryz.func146,eo_c148⟩
    · exact .inl ⟨_,_,Tryz.func147,eo_c101⟩
    · exact .inl ⟨_,_,Tryz.func148,eo_c150⟩
    · exact .inl ⟨_,_,Tryz.func149,eo_c151⟩
    · exact .inl ⟨_,_,Tryz.func150,eo_c152⟩
    · exact .inl ⟨_,_,Tryz.func151,eo_c197⟩
    · exact .inl ⟨_,_,Tryz.func152,eo_c198⟩
    · exact .inl ⟨_,_,Tryz.func160,eo_c141⟩
    · exact .inl ⟨_,_,Tryz.func163,eo_c299⟩
    · exact .inl ⟨_,_,Tryz.func164,eo_c300⟩
    · exact .inl ⟨_,_,Tryz.func165,eo_c111⟩
    · exact .inl ⟨_,_,Tryz.func166,eo_c112⟩
    · exact .inl ⟨_,_,Tryz.func167,eo_c174⟩
    · exact .inl ⟨_,_,Tryz.func168,eo_c176⟩
    · exact .inl ⟨_,_,Tryz.func174,eo_c103⟩
    · exact .inl ⟨_,_,Tryz.func175,eo_c98⟩
    · exact .inl ⟨_,_,Tryz.func178,eo_c357⟩
    · exact .inl ⟨_,_,Tryz.func179,eo_c358⟩
    · exact .inl ⟨_,_,Tryz.func180,eo_c359⟩
    · exact .inl ⟨_,_,Tryz.func181,eo_c360⟩
    · exact .inl ⟨_,_,Tryz.func182,eo_c115⟩
    · exact .inl ⟨_,_,Tryz.func183,eo_c117⟩
    · exact .inl ⟨_,_,Tryz.func184,eo_c118⟩
    · exact .inl ⟨_,_,Tryz.func185,eo_c119⟩
    · exact .inl ⟨_,_,Tryz.func186,eo_c120⟩
    · exact .inl ⟨_,_,Tryz.func188,eo_c121⟩
    · exact .inl ⟨_,_,Tryz.func189,eo_c122⟩
    · exact .inl ⟨_,_,Tryz.func190,eo_c123⟩
    · exact .inl ⟨_,_,Tryz.func191,eo_c124⟩
    · exact .inl ⟨_,_,Tryz.func192,eo_c140⟩
    · exact .inl ⟨_,_,Tryz.func193,eo_c171⟩
    · exact .inl ⟨_,_,Tryz.func194,eo_c172⟩
    · exact .inl ⟨_,_,Tryz.func195,eo_c173⟩
    · exact .inl ⟨_,_,Tryz.func196,eo_c199⟩
    · exact .inr ⟨4,rfl⟩
    · exact .inl ⟨_,_,Tryz.func198,eo_c201⟩
    · exact .inl ⟨_,_,Tryz.func199,eo_c229⟩
    · exact .inl ⟨_,_,Tryz.func200,eo_c230⟩
    · exact .inl ⟨_,_,Tryz.func202,eo_c196⟩
    · exact .inl ⟨_,_,Tryz.func216,eo_c195⟩
    · exact .inl ⟨_,_,Tryz.func217,eo_c301⟩
    · exact .inl ⟨_,_,Tryz.func218,eo_c175⟩
    · exact .inl ⟨_,_,Tryz.func219,eo_c177⟩
    · exact .inl ⟨_,_,Tryz.func220,eo_c178⟩
    · exact .inl ⟨_,_,Tryz.func221,eo_c179⟩
    · exact .inl ⟨_,_,Tryz.func222,eo_c180⟩
    · exact .inl ⟨_,_,Tryz.func223,eo_c181⟩
    · exact .inl ⟨_,_,Tryz.func225,eo_c187⟩
    · exact .inl ⟨_,_,Tryz.func233,eo_c231⟩
    · exact .inl ⟨_,_,Tryz.func239,eo_c237⟩
    · exact .inl ⟨_,_,Tryz.func248,eo_c222⟩
    · exact .inl ⟨_,_,Tryz.func249,eo_c223⟩
    · exact .inl ⟨_,_,Tryz.func257,eo_c249⟩
    · exact .inl ⟨_,_,Tryz.func258,eo_c250⟩
end Go.Jq
namespace Go.Jq
set_option maxRecDepth 10000 in
theorem eoRun:∀ x ∈ A11_list,eoG x.1=x.2:=by
  intro x hx
  simp only [A11_list,List.mem_cons,List.not_mem_nil,or_false] at hx
  repeat' rcases hx with rfl | hx
  all_goals first | rfl | (subst hx;rfl)
theorem eoAll:AllG eoG:=by constructor <;> (repeat' (first | rfl | constructor))
theorem eoComp:CompG eoG:=by repeat' (first | rfl | constructor)
theorem eoDc:CmpG eoG:=by repeat' (first | rfl | constructor)
theorem eoLq:LessQ eoG:=by constructor <;> (repeat' (first | rfl | constructor))
theorem eoTg:TextG eoG:=by repeat' (first | rfl | constructor)
theorem eoLaw:OrdLG eoG:=⟨eoAll,eoComp,eoDc,eoLq,eoTg,rfl,fun _ _ k=>aw11_spec eoRun k⟩
end Go.Jq
